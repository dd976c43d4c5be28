/- Of a table's trie: its steps, a key's way in it, what it finds. No program in sight. -/
import Derived.Test.YtklhkejhndnhbaaC3
import Derived.Lib.AppendZerosOnto
import Derived.Lib.Overlaps
import Derived.Test.YtklhkejhndnhbaaC1
import Derived.Lib.AppendZeros
import Derived.Test.YtklhkejhndnhbaaC2

set_option linter.unusedSimpArgs false
set_option linter.unusedVariables false
namespace Go.Kb

structure WB (bits : Int) (W : List Wy) : Prop where
  w : WOk W
  room : ∀ v ∈ W, 4 * ((v.steps : Int) + 1) ≤ bits
theorem room_of {p : Pfx} (h : pmay p = true) {s : Nat} (hs : s ≤ lastN p) : 4 * ((s : Int) + 1) ≤ p.bits := by
  obtain ⟨h1, h2, h3, _⟩ := (pmay_iff p).1 h
  unfold lastN at hs; omega
theorem ways_mem {bits : Int} : ∀ {t : List Rt} {v : Wy}, v ∈ waysF bits t → v = root ∨ ∃ r ∈ t, r.p.bits = bits ∧ ∃ s, 1 ≤ s ∧ s ≤ lastN r.p ∧ v = wayAt r.p.key s := by
  intro t
  suffices h : ∀ (t : List Rt) (W : List Wy) (v : Wy), v ∈ t.foldl (fun W r => addWs W r bits) W → v ∈ W ∨ ∃ r ∈ t, r.p.bits = bits ∧ ∃ s, 1 ≤ s ∧ s ≤ lastN r.p ∧ v = wayAt r.p.key s by
    intro v hv
    rcases h t [root] v hv with h1 | h1
    · exact .inl (List.mem_singleton.1 h1)
    · exact .inr h1
  intro t
  induction t with
  | nil => intro W v hv; exact .inl hv
  | cons r t ih =>
    intro W v hv
    rcases ih _ v hv with h1 | ⟨r', h2, h3⟩
    · replace h1 : v ∈ addWs W r bits := h1
      unfold addWs at h1
      split at h1
      · rename_i hb
        rcases addTo_mem.1 h1 with h1 | ⟨s, h4, h5, h6⟩
        · exact .inl h1
        · exact .inr ⟨r, by simp, hb, s, h4, h5, h6⟩
      · exact .inl h1
    · exact .inr ⟨r', by simp [h2], h3⟩
theorem ways_bits {bits : Int} {t : List Rt} (hb : bits = 32 ∨ bits = 128) (h : ∀ r ∈ t, pmay r.p = true) : WB bits (waysF bits t) := ⟨ways_ok h, fun v hv => by
  rcases ways_mem hv with rfl | ⟨r, h1, h2, s, h3, h4, rfl⟩
  · simp only [root]; omega
  · have := room_of (h r h1) h4
    rw [h2] at this; exact this⟩

def par (v : Wy) : Wy := wayAt v.key (v.steps - 1)
theorem par_child {v : Wy} (hv : v.ok) (hs : 0 < v.steps) : child (par v) (kst v.key (v.steps - 1)) = v := by
  rw [par, child_wayAt _ _ (by have := hv.1; omega), show v.steps - 1 + 1 = v.steps by omega]
  obtain ⟨s, k⟩ := v
  rw [wayAt]; congr 1; exact hv.2
theorem child_par {v : Wy} (hv : v.ok) {b : Nat} (hb : b < 16) : par (child v b) = v ∧ kst (child v b).key ((child v b).steps - 1) = b := by
  obtain ⟨s, k⟩ := v
  have h1 := rset_cut (n := s) (b := b) (k := k) hv.1 hb hv.2
  have h2 := rset_kst (n := s) (b := b) (k := k) hv.1 hb hv.2
  refine ⟨?_, h2⟩
  simp only [par, child, wayAt, Nat.add_sub_cancel]
  rw [h1]

section
variable {bits : Int} {W : List Wy} {R : List Rt}
theorem par_lt (hW : WOk W) {i : Nat} {v : Wy} (hi : W[i]? = some v) (hs : 0 < v.steps) : ∃ j, j < i ∧ W[j]? = some (par v) := hW.ord i v hi (v.steps - 1) (by omega)
theorem idx_par (hW : WOk W) {i : Nat} {v : Wy} (hi : W[i]? = some v) (hs : 0 < v.steps) : W.idxOf (par v) < i := by
  obtain ⟨j, hj, e⟩ := par_lt hW hi hs
  rw [get_idx hW.nodup e]; exact hj

def lab (W : List Wy) (i b : Nat) (v : Wy) : Int :=
  if v.steps = 0 ∨ W.idxOf (par v) < i ∨ W.idxOf (par v) = i ∧ kst v.key (v.steps - 1) < b then (v.steps : Int) + 1 else 0
def labs (W : List Wy) (i b : Nat) : List Int := W.map (lab W i b)
theorem labs_get {i b j : Nat} {v : Wy} (hj : W[j]? = some v) : (labs W i b)[j]? = some (lab W i b v) := by simp [labs, hj]
theorem labs_zero (hW : WOk W) : labs W 0 0 = (List.replicate W.length 0).set 0 1 := by
  refine List.ext_getElem? fun j => ?_
  rcases Nat.lt_or_ge j W.length with hj | hj
  · obtain ⟨v, hv⟩ : ∃ v, W[j]? = some v := ⟨W[j], by simp [hj]⟩
    rw [labs_get hv, List.getElem?_set]
    split
    · rename_i e; subst e
      obtain rfl := Option.some.inj (hv.symm.trans hW.root)
      rw [if_pos (by simpa using hj)]; rfl
    · rename_i e
      have hs : v.steps ≠ 0 := fun h0 => e (by
        have hvk := hW.ok v (List.mem_of_getElem? hv)
        have : v = root := by
          obtain ⟨s, k⟩ := v
          simp only at h0; subst h0
          have := hvk.2
          simp only [Nat.mul_zero] at this
          rw [kcut_none _ _ (by decide)] at this
          rw [root, ← this]
        subst this
        exact get_inj hW.nodup hW.root hv)
      rw [lab, if_neg (by omega)]
      simp [hj]
  · rw [List.getElem?_eq_none (by simp [labs]; omega), List.getElem?_eq_none (by simp; omega)]
theorem labs_row (i : Nat) : labs W i 16 = labs W (i + 1) 0 := by
  refine List.map_congr_left fun v _ => ?_
  have := kst_lt v.key (v.steps - 1)
  unfold lab
  by_cases h1 : v.steps = 0
  · simp [h1]
  · by_cases h2 : W.idxOf (par v) < i + 1
    · rw [if_pos (by omega), if_pos (by omega)]
    · rw [if_neg (by omega), if_neg (by omega)]
theorem lab_self (hW : WOk W) {i b : Nat} {v : Wy} (hi : W[i]? = some v) : lab W i b v = (v.steps : Int) + 1 := by
  unfold lab
  by_cases h : v.steps = 0
  · rw [if_pos (.inl h)]
  · rw [if_pos (.inr (.inl (idx_par hW hi (by omega))))]
theorem slotF_len {w : Wy} {b : Nat} (hm : ∀ r ∈ R, pmay r.p = true) : 0 ≤ (slotF bits R w b).len ∧ (slotF bits R w b).len ≤ 4 * ((w.steps : Int) + 1) + 1 := by
  suffices h : ∀ (R : List Rt) (s : Slt), (∀ r ∈ R, pmay r.p = true) → 0 ≤ s.len ∧ s.len ≤ 4 * ((w.steps : Int) + 1) + 1 → 0 ≤ (R.foldl (slotUp bits w b) s).len ∧ (R.foldl (slotUp bits w b) s).len ≤ 4 * ((w.steps : Int) + 1) + 1 from h R _ hm (by simp [Slt.no]; omega)
  intro R
  induction R with
  | nil => intro s _ h; exact h
  | cons r R ih =>
    intro s hm h
    refine ih _ (fun x hx => hm x (by simp [hx])) ?_
    unfold slotUp
    split
    · rename_i hh
      obtain ⟨h1, h2, h3, _⟩ := (pmay_iff r.p).1 (hm r (by simp))
      have := hh.1
      simp only [hit, Bool.and_eq_true, decide_eq_true_eq] at this
      have hl := this.1.2
      unfold lastN at hl
      simp only; omega
    · exact h
theorem labs_step (hW : WOk W) {i b : Nat} {v : Wy} (hi : W[i]? = some v) (hb : b < 16) (hm : ∀ r ∈ R, pmay r.p = true) :
    stepOne W.length i (nodeF bits W R v) b (labs W i b) = some (labs W i (b + 1)) := by
  have hvk := hW.ok v (List.mem_of_getElem? hi)
  have hx : (labs W i b).getD i 0 = (v.steps : Int) + 1 := by rw [getD_some (labs_get hi), lab_self hW hi]
  have hsl := slotF_len (bits := bits) (w := v) (b := b) hm
  rw [stepOne, hx, nodeF, Nd.sl_mk' hb, Nd.nx_mk' hb, if_neg (by omega)]
  have key : ∀ u, u ∈ W → u.steps ≠ 0 → W.idxOf (par u) = i → kst u.key (u.steps - 1) = b → u = child v b := fun u hu h1 h2 h3 => by
    have hpu : par u ∈ W := hW.up u hu _ (by omega)
    have := idx_get hpu
    rw [h2, hi] at this
    rw [Option.some.inj this, ← h3, par_child (hW.ok u hu) (by omega)]
  by_cases h : child v b ∈ W
  · have hpos := (nextF_pos hW).2 h
    obtain ⟨hp1, hp2⟩ := child_par hvk hb
    have hget := idx_get h
    have hidx : W.idxOf (par (child v b)) = i := by rw [hp1]; exact get_idx hW.nodup hi
    have hlt := idx_par hW hget (by simp [child])
    rw [hidx] at hlt
    have hln := idx_lt h
    have hn : nextF W v b = (W.idxOf (child v b) : Nat) := by rw [nextF, if_pos h]
    have hz : (labs W i b).getD (nextF W v b).toNat 0 = 0 := by
      rw [hn, Int.toNat_natCast, getD_some (labs_get hget), lab, if_neg]
      rw [hidx, hp2]; simp [child]
    rw [if_neg (by omega), if_neg (by omega), hn, Int.toNat_natCast]
    refine congrArg some (List.ext_getElem? fun j => ?_)
    rw [List.getElem?_set]
    rcases Nat.lt_or_ge j W.length with hj | hj
    · obtain ⟨u, hu⟩ : ∃ u, W[j]? = some u := ⟨W[j], by simp [hj]⟩
      rw [labs_get hu, labs_get hu]
      split
      · rename_i e; subst e
        obtain rfl := Option.some.inj (hget.symm.trans hu)
        rw [if_pos (by simp [labs]; exact hj), lab, if_pos (.inr (.inr ⟨hidx, by omega⟩))]
        simp [child]
      · rename_i e
        have hne : u ≠ child v b := fun e' => by subst e'; exact e (get_inj hW.nodup hget hu)
        congr 1
        unfold lab
        by_cases h1 : u.steps = 0
        · rw [if_pos (.inl h1), if_pos (.inl h1)]
        · have hk := fun h2 h3 => hne (key u (List.mem_of_getElem? hu) h1 h2 h3)
          by_cases h2 : W.idxOf (par u) = i ∧ kst u.key (u.steps - 1) < b + 1
          · have : ¬ kst u.key (u.steps - 1) = b := hk h2.1
            rw [if_pos (.inr (.inr ⟨h2.1, by omega⟩)), if_pos (.inr (.inr h2))]
          · by_cases h4 : W.idxOf (par u) < i
            · rw [if_pos (.inr (.inl h4)), if_pos (.inr (.inl h4))]
            · rw [if_neg (by omega), if_neg (by omega)]
    · rw [List.getElem?_eq_none (by simp [labs]; omega), List.getElem?_eq_none (by simp [labs]; omega), if_neg (by omega)]
  · have hn : nextF W v b = 0 := by rw [nextF, if_neg h]
    rw [if_pos hn]
    refine congrArg some (List.map_congr_left fun u hu => ?_)
    unfold lab
    by_cases h1 : u.steps = 0
    · rw [if_pos (.inl h1), if_pos (.inl h1)]
    · have hk : ∀ h2 : W.idxOf (par u) = i, ¬ kst u.key (u.steps - 1) = b := fun h2 h3 => h (key u hu h1 h2 h3 ▸ hu)
      by_cases h2 : W.idxOf (par u) = i ∧ kst u.key (u.steps - 1) < b + 1
      · have := hk h2.1
        rw [if_pos (.inr (.inr ⟨h2.1, by omega⟩)), if_pos (.inr (.inr h2))]
      · by_cases h4 : W.idxOf (par u) < i
        · rw [if_pos (.inr (.inl h4)), if_pos (.inr (.inl h4))]
        · rw [if_neg (by omega), if_neg (by omega)]
theorem steps_row (hW : WOk W) {i : Nat} {v : Wy} (hi : W[i]? = some v) (hm : ∀ r ∈ R, pmay r.p = true) : ∀ b, b ≤ 16 → stepsB W.length i (nodeF bits W R v) b (labs W i 0) = some (labs W i b)
  | 0, _ => rfl
  | b + 1, hb => by rw [stepsB, steps_row hW hi hm b (by omega), Option.bind_some, labs_step hW hi (by omega) hm]
theorem steps_all (hW : WB bits W) (hm : ∀ r ∈ R, pmay r.p = true) : ∀ i, i ≤ W.length → stepsN bits (nodes bits W R) i = some (labs W i 0)
  | 0, _ => by rw [stepsN, nodes_length, labs_zero hW.w]
  | i + 1, hi => by
    obtain ⟨v, hv⟩ : ∃ v, W[i]? = some v := ⟨W[i], by simp [show i < W.length by omega]⟩
    have hr := hW.room v (List.mem_of_getElem? hv)
    have hx : (labs W i 0).getD i 0 = (v.steps : Int) + 1 := by rw [getD_some (labs_get hv), lab_self hW.w hv]
    rw [stepsN, steps_all hW hm i (by omega), Option.bind_some, hx, if_neg (by omega), nodes_getD hv, nodes_length, steps_row hW.w hv hm 16 (Nat.le_refl _), labs_row]
theorem steps_eq (hb : bits = 32 ∨ bits = 128) (hW : WB bits W) (hm : ∀ r ∈ R, pmay r.p = true) (hl : W.length ≤ 512) : stepsV bits (nodes bits W R) = some (W.map fun v => (v.steps : Int) + 1) := by
  rw [stepsV, nodes_length, if_pos ⟨hb, hW.w.ne, hl⟩, steps_all hW hm _ (Nat.le_refl _)]
  refine congrArg some (List.map_congr_left fun v hv => ?_)
  unfold lab
  by_cases h : v.steps = 0
  · rw [if_pos (.inl h)]
  · rw [if_pos (.inr (.inl (idx_lt (hW.w.up v hv _ (by omega)))))]

/-! A key's way. -/
theorem chain_at (hW : WOk W) {k : Key} : ∀ {n : Nat}, n ≤ 32 → (∀ j, j ≤ n → wayAt k j ∈ W) → chain (nodes bits W R) k n = W.idxOf (wayAt k n)
  | 0, _, _ => by rw [chain, wayAt_zero, get_idx hW.nodup hW.root]
  | n + 1, hn, h => by
    have ih := chain_at hW (k := k) (n := n) (by omega) fun j hj => h j (by omega)
    have hw := idx_get (h n (by omega))
    rw [chain, ih, nodes_getD hw, nodeF, Nd.nx_mk' (kst_lt k n), nextF, child_wayAt _ _ (by omega), if_pos (h (n + 1) (Nat.le_refl _)), Int.toNat_natCast]
theorem chain_end (hW : WOk W) {k : Key} {n : Nat} (hn : n < 32) (h : ∀ j, j ≤ n → wayAt k j ∈ W) (h2 : wayAt k (n + 1) ∉ W) : chain (nodes bits W R) k (n + 1) = 0 := by
  have hw := idx_get (h n (Nat.le_refl _))
  rw [chain, chain_at hW (by omega) h, nodes_getD hw, nodeF, Nd.nx_mk' (kst_lt k n), nextF, child_wayAt _ _ hn, if_neg h2]; rfl
def deepK (W : List Wy) (k : Key) (n : Nat) : Nat := ((List.range n).find? fun j => decide (wayAt k (j + 1) ∉ W)).getD n
theorem deepK_le {k : Key} {n : Nat} : deepK W k n ≤ n := by
  unfold deepK
  cases h : (List.range n).find? fun j => decide (wayAt k (j + 1) ∉ W) with
  | none => exact Nat.le_refl _
  | some i => have := List.mem_of_find?_eq_some h; simp at this; exact Nat.le_of_lt this
theorem deepK_in (hW : WOk W) {k : Key} {n j : Nat} (hj : j ≤ deepK W k n) : wayAt k j ∈ W := by
  rcases Nat.eq_zero_or_pos j with e | e
  · subst e; rw [wayAt_zero]; exact List.mem_of_getElem? hW.root
  · unfold deepK at hj
    cases h : (List.range n).find? fun j => decide (wayAt k (j + 1) ∉ W) with
    | none =>
      rw [h] at hj
      have := List.find?_eq_none.1 h (j - 1) (by simp at hj ⊢; omega)
      simpa [show j - 1 + 1 = j by omega] using this
    | some i =>
      rw [h] at hj
      obtain ⟨_, _, h3⟩ := List.find?_range_eq_some.1 h
      have := h3 (j - 1) (by simp at hj; omega)
      simpa [show j - 1 + 1 = j by omega] using this
theorem deepK_out {k : Key} {n : Nat} (h : deepK W k n < n) : wayAt k (deepK W k n + 1) ∉ W := by
  unfold deepK at h ⊢
  cases e : (List.range n).find? fun j => decide (wayAt k (j + 1) ∉ W) with
  | none => rw [e] at h; simp at h
  | some i =>
    rw [e] at h
    have := (List.find?_range_eq_some.1 e).1
    simpa using this
theorem wayAt_down (hW : WOk W) {k : Key} {i j : Nat} (hij : i ≤ j) (h : wayAt k j ∈ W) : wayAt k i ∈ W := by
  have := hW.up _ h i hij
  rwa [wayAt_up _ _ _ hij] at this
theorem deepK_iff (hW : WOk W) {k : Key} {n j : Nat} (hn : ∀ v ∈ W, v.steps < n) : wayAt k j ∈ W ↔ j ≤ deepK W k n := by
  refine ⟨fun h => ?_, deepK_in hW⟩
  rcases Nat.lt_or_ge (deepK W k n) j with h1 | h1
  · have hjn := hn _ h
    have : wayAt k (deepK W k n + 1) ∈ W := wayAt_down hW h1 h
    exact absurd this (deepK_out (by have : j < n := hjn; omega))
  · exact h1
theorem idx_pos (hW : WOk W) {k : Key} {n : Nat} (h : wayAt k (n + 1) ∈ W) : 0 < W.idxOf (wayAt k (n + 1)) := by
  have := idx_get h
  rcases Nat.eq_zero_or_pos (W.idxOf (wayAt k (n + 1))) with e | e
  · rw [e, hW.root] at this
    have := congrArg Wy.steps (Option.some.inj this)
    simp [root, wayAt] at this
  · exact e
theorem wayLen_eq (hW : WB bits W) (hb : bits = 32 ∨ bits = 128) {k : Key} : wayLen (nodes bits W R) k (bits / 4).toNat = deepK W k (bits / 4).toNat ∧ deepK W k (bits / 4).toNat < (bits / 4).toNat := by
  have hn : ∀ v ∈ W, v.steps < (bits / 4).toNat := fun v hv => by have := hW.room v hv; omega
  have hd : deepK W k (bits / 4).toNat < (bits / 4).toNat := hn _ (deepK_in hW.w (Nat.le_refl _))
  refine ⟨wayLen_stop hd (fun j hj => ?_) ?_, hd⟩
  · rw [chain_at hW.w (by omega) fun i hi => deepK_in hW.w (n := (bits / 4).toNat) (by omega)]
    have := idx_pos hW.w (deepK_in hW.w (k := k) (n := (bits / 4).toNat) (j := j + 1) (by omega))
    omega
  · exact chain_end hW.w (by omega) (fun j hj => deepK_in hW.w hj) (deepK_out hd)
end

/-! How deep a table's trie is, and how many nodes it has. -/
def deepR (bits : Int) (R : List Rt) : Int := R.foldl (fun d r => if r.p.bits = bits then max d ((lastN r.p : Int) + 1) else d) 1
def allR (bits : Int) (R : List Rt) : Int := R.foldl (fun d r => if r.p.bits = bits then d + (lastN r.p : Int) else d) 1
theorem deepR_snoc (bits : Int) (R : List Rt) (r : Rt) : deepR bits (R ++ [r]) = if r.p.bits = bits then max (deepR bits R) ((lastN r.p : Int) + 1) else deepR bits R := by simp [deepR]
theorem allR_snoc (bits : Int) (R : List Rt) (r : Rt) : allR bits (R ++ [r]) = if r.p.bits = bits then allR bits R + (lastN r.p : Int) else allR bits R := by simp [allR]
theorem take_snoc {α : Type} {t : List α} {i : Nat} {r : α} (h : t[i]? = some r) : t.take (i + 1) = t.take i ++ [r] := by
  obtain ⟨hi, rfl⟩ := List.getElem?_eq_some_iff.1 h
  exact List.take_succ_eq_append_getElem hi
theorem deepR_take {bits : Int} {t : List Rt} (n : Nat) (hm : ∀ r ∈ t, pmay r.p = true) : 1 ≤ deepR bits (t.take n) ∧ deepR bits (t.take n) ≤ 32 ∧ (∀ r ∈ t.take n, r.p.bits = bits → (lastN r.p : Int) + 1 ≤ deepR bits (t.take n)) ∧ (deepR bits (t.take n) = 1 ∨ ∃ r ∈ t.take n, r.p.bits = bits ∧ deepR bits (t.take n) = (lastN r.p : Int) + 1) := by
  induction n with
  | zero => exact ⟨by simp [deepR], by simp [deepR], fun r hr => by simp at hr, .inl (by simp [deepR])⟩
  | succ n ih =>
    rcases Nat.lt_or_ge n t.length with h | h
    · have hr : t[n]? = some t[n] := by simp [h]
      have hl := lastN_lt (hm t[n] (by simp))
      rw [take_snoc hr, deepR_snoc]
      obtain ⟨h1, h2, h3, h4⟩ := ih
      split
      · rename_i hb
        refine ⟨by omega, by omega, fun r hr' hb' => ?_, ?_⟩
        · rcases List.mem_append.1 hr' with hr' | hr'
          · have := h3 r hr' hb'; omega
          · obtain rfl := List.mem_singleton.1 hr'; omega
        · rcases Int.lt_or_le (deepR bits (t.take n)) ((lastN t[n].p : Int) + 1) with hc | hc
          · exact .inr ⟨t[n], List.mem_append.2 (.inr (List.mem_singleton.2 rfl)), hb, by omega⟩
          · rw [Int.max_eq_left hc]
            rcases h4 with h4 | ⟨r, h5, h6, h7⟩
            · exact .inl h4
            · exact .inr ⟨r, List.mem_append.2 (.inl h5), h6, h7⟩
      · rename_i hb
        refine ⟨h1, h2, fun r hr' hb' => ?_, ?_⟩
        · rcases List.mem_append.1 hr' with hr' | hr'
          · exact h3 r hr' hb'
          · obtain rfl := List.mem_singleton.1 hr'; exact absurd hb' hb
        · rcases h4 with h4 | ⟨r, h5, h6, h7⟩
          · exact .inl h4
          · exact .inr ⟨r, List.mem_append.2 (.inl h5), h6, h7⟩
    · rw [List.take_of_length_le (by omega)] at ih ⊢; exact ih
theorem allR_take {bits : Int} {t : List Rt} (n : Nat) (hm : ∀ r ∈ t, pmay r.p = true) : 1 ≤ allR bits (t.take n) ∧ allR bits (t.take n) ≤ 1 + 31 * n := by
  induction n with
  | zero => exact ⟨by simp [allR], by simp [allR]⟩
  | succ n ih =>
    rcases Nat.lt_or_ge n t.length with h | h
    · have hr : t[n]? = some t[n] := by simp [h]
      have hl := lastN_lt (hm t[n] (by simp))
      rw [take_snoc hr, allR_snoc]
      split <;> omega
    · rw [List.take_of_length_le (by omega)] at ih ⊢; omega
theorem foldl_max_le {M : Int} : ∀ {l : List Int} {a : Int}, a ≤ M → (∀ x ∈ l, x ≤ M) → l.foldl max a ≤ M
  | [], _, h, _ => h
  | x :: l, a, h, hl => foldl_max_le (l := l) (by have := hl x (by simp); omega) fun y hy => hl y (by simp [hy])
theorem le_foldl_max : ∀ {l : List Int} {a : Int}, a ≤ l.foldl max a ∧ ∀ x ∈ l, x ≤ l.foldl max a
  | [], a => ⟨Int.le_refl _, fun x hx => by cases hx⟩
  | y :: l, a => by
    obtain ⟨h1, h2⟩ := le_foldl_max (l := l) (a := max a y)
    refine ⟨by rw [List.foldl_cons]; omega, fun x hx => ?_⟩
    rw [List.foldl_cons]
    rcases List.mem_cons.1 hx with rfl | hx
    · omega
    · exact h2 x hx
section
variable {bits : Int} {t : List Rt}
theorem way_in (hm : ∀ r ∈ t, pmay r.p = true) {r : Rt} (hr : r ∈ t) (hb : r.p.bits = bits) {s : Nat} (hs : s ≤ lastN r.p) : wayAt r.p.key s ∈ waysF bits t := by
  rcases Nat.eq_zero_or_pos s with e | e
  · subst e; rw [wayAt_zero]; exact List.mem_of_getElem? (ways_ok hm).root
  · have := holds_ways (bits := bits) t.length t
    rw [List.take_length] at this
    exact this r hr hb s e hs
theorem deep_eq (hb : bits = 32 ∨ bits = 128) (hm : ∀ r ∈ t, pmay r.p = true) (hl : (waysF bits t).length ≤ 512) : deepV bits (nodes bits (waysF bits t) t) = deepR bits t := by
  have hW := ways_bits hb hm
  obtain ⟨h1, h2, h3, h4⟩ := deepR_take (bits := bits) t.length hm
  rw [List.take_length] at h1 h2 h3 h4
  rw [deepV, steps_eq hb hW hm hl, Option.getD_some]
  apply Int.le_antisymm
  · refine foldl_max_le (by omega) fun x hx => ?_
    obtain ⟨v, hv, rfl⟩ := List.mem_map.1 hx
    rcases ways_mem hv with rfl | ⟨r, hr, hbr, s, h5, h6, rfl⟩
    · simp only [root]; omega
    · have := h3 r hr hbr
      simp only [wayAt]; omega
  · rcases h4 with h4 | ⟨r, hr, hbr, h5⟩
    · rw [h4]; exact le_foldl_max.2 1 (List.mem_map.2 ⟨root, List.mem_of_getElem? hW.w.root, rfl⟩)
    · rw [h5]; exact le_foldl_max.2 _ (List.mem_map.2 ⟨_, way_in hm hr hbr (Nat.le_refl _), rfl⟩)
theorem addTo_length {W : List Wy} {p : Pfx} : ∀ n, (addTo W p n).length ≤ W.length + n
  | 0 => Nat.le_refl _
  | n + 1 => by
    have := addTo_length (W := W) (p := p) n
    rw [addTo_succ]; unfold addW; split
    · omega
    · simp only [List.length_append, List.length_cons, List.length_nil]; omega
theorem ways_few (n : Nat) : ((waysF bits (t.take n)).length : Int) ≤ allR bits (t.take n) := by
  induction n with
  | zero => simp [waysF, allR]
  | succ n ih =>
    rcases Nat.lt_or_ge n t.length with h | h
    · have hr : t[n]? = some t[n] := by simp [h]
      rw [take_snoc hr, ways_snoc, allR_snoc]; unfold addWs
      split
      · have := addTo_length (W := waysF bits (t.take n)) (p := t[n].p) (lastN t[n].p); omega
      · exact ih
    · rw [List.take_of_length_le (by omega)] at ih ⊢; exact ih
theorem steps_le (hW : WOk (waysF bits t)) : ∀ (n i : Nat) (v : Wy), v.steps = n → (waysF bits t)[i]? = some v → n ≤ i := by
  intro n
  induction n with
  | zero => intro i v _ _; exact Nat.zero_le _
  | succ n ih =>
    intro i v hs hi
    obtain ⟨j, hj, e⟩ := par_lt hW hi (by omega)
    have := ih j (par v) (by simp only [par, wayAt]; omega) e
    omega
theorem ways_many (hm : ∀ r ∈ t, pmay r.p = true) : deepR bits t ≤ ((waysF bits t).length : Int) := by
  have hW := ways_ok (bits := bits) hm
  obtain ⟨_, _, _, h4⟩ := deepR_take (bits := bits) t.length hm
  rw [List.take_length] at h4
  rcases h4 with h4 | ⟨r, hr, hbr, h5⟩
  · have := hW.ne; omega
  · have hin := way_in hm hr hbr (Nat.le_refl _)
    have h1 := idx_lt hin
    have h2 := steps_le hW _ _ _ rfl (idx_get hin)
    simp only [wayAt] at h2
    have h3 : ((wayAt r.p.key (lastN r.p)).steps) = lastN r.p := rfl
    simp only [wayAt] at h1
    omega

/-! Walks in a table's trie. -/
theorem walkOk_eq (hb : bits = 32 ∨ bits = 128) (hm : ∀ r ∈ t, pmay r.p = true) (hl : (waysF bits t).length ≤ 512) (k : Key) : walkOk bits (nodes bits (waysF bits t) t) k = decide (kcut k bits = k) := by
  rw [walkOk, steps_eq hb (ways_bits hb hm) hm hl]; rfl
def deepT (bits : Int) (t : List Rt) (k : Key) : Nat := deepK (waysF bits t) k (bits / 4).toNat
theorem walkV_eq (hb : bits = 32 ∨ bits = 128) (hm : ∀ r ∈ t, pmay r.p = true) (hl : (waysF bits t).length ≤ 512) {k : Key} (hk : kcut k bits = k) :
    walkV bits (nodes bits (waysF bits t) t) k = (List.range (deepT bits t k + 1)).map fun j => (((waysF bits t).idxOf (wayAt k j) : Nat) : Int) := by
  have hW := ways_bits hb hm
  obtain ⟨h1, h2⟩ := wayLen_eq (R := t) hW hb (k := k)
  rw [walkV, if_pos (by rw [walkOk_eq hb hm hl, decide_eq_true hk]), h1, wayL]
  refine List.map_congr_left fun j hj => ?_
  have hj' : j ≤ deepT bits t k := by have := List.mem_range.1 hj; unfold deepT; omega
  rw [chain_at hW.w (by unfold deepT at hj'; omega) fun i hi => deepK_in hW.w (n := (bits / 4).toNat) (by unfold deepT at hj'; omega)]
theorem deepT_lt (hb : bits = 32 ∨ bits = 128) (hm : ∀ r ∈ t, pmay r.p = true) (k : Key) : deepT bits t k < (bits / 4).toNat := (wayLen_eq (R := t) (ways_bits hb hm) hb).2
theorem deepT_iff (hb : bits = 32 ∨ bits = 128) (hm : ∀ r ∈ t, pmay r.p = true) (k : Key) {j : Nat} : wayAt k j ∈ waysF bits t ↔ j ≤ deepT bits t k :=
  deepK_iff (ways_bits hb hm).w fun v hv => by have := (ways_bits hb hm).room v hv; omega
theorem way_common {k l : Key} {i : Nat} (h : (i : Int) ≤ kcommon k l / 4) : wayAt k i = wayAt l i := by
  have h0 := kcommon_spec k l
  obtain ⟨m, hm, h128, _⟩ := h0
  rw [wayAt, wayAt, (kcommon_ge (a := k) (b := l) (n := ((4 * i : Nat) : Int)) (by omega)).1 (by omega)]
theorem may_cut {p : Pfx} (h : pmay p = true) {bits : Int} (hb : p.bits = bits) : kcut p.key bits = p.key := by
  obtain ⟨_, _, h3, h4⟩ := (pmay_iff p).1 h
  rw [← h4, kcut_cut]; congr 1; omega
theorem deepR_room (hb : bits = 32 ∨ bits = 128) (hm : ∀ r ∈ t, pmay r.p = true) : deepR bits t ≤ bits / 4 := by
  obtain ⟨_, _, _, h4⟩ := deepR_take (bits := bits) t.length hm
  rw [List.take_length] at h4
  rcases h4 with h4 | ⟨r, hr, hbr, h5⟩
  · omega
  · have := room_of (hm r hr) (Nat.le_refl _)
    rw [hbr] at this; omega
theorem map_range_get {α : Type} {f : Nat → α} {n i : Nat} (h : i < n) : ((List.range n).map f)[i]? = some (f i) := by simp [h]
def Mk (bits : Int) (W : List Wy) (R : List Rt) (on : List Bool) : Prop := on[0]? = some true ∧ ∀ r ∈ R, r.p.bits = bits → ∀ s, wayAt r.p.key s ∈ W → on[W.idxOf (wayAt r.p.key s)]? = some true
theorem set_true {on : List Bool} {i j : Nat} (h : on[j]? = some true) : (on.set i true)[j]? = some true := by
  rw [List.getElem?_set]
  split
  · rename_i e; subst e; rw [if_pos (List.getElem?_eq_some_iff.1 h).1]
  · exact h
theorem Mk.start {bits : Int} {W : List Wy} {t : List Rt} {n : Nat} (hn : 0 < n) : Mk bits W (t.take 0) ((List.replicate n false).set 0 true) := ⟨by simp [hn], fun r hr => by simp at hr⟩
theorem Mk.set {bits : Int} {W : List Wy} {R : List Rt} {on : List Bool} {i : Nat} (h : Mk bits W R on) : Mk bits W R (on.set i true) := ⟨set_true h.1, fun r hr hb s hs => set_true (h.2 r hr hb s hs)⟩
theorem Mk.snoc {bits : Int} {W : List Wy} {R : List Rt} {r : Rt} {on : List Bool} (h : Mk bits W R on) (h2 : r.p.bits = bits → ∀ s, wayAt r.p.key s ∈ W → on[W.idxOf (wayAt r.p.key s)]? = some true) : Mk bits W (R ++ [r]) on := ⟨h.1, fun q hq hb s hs => by
  rcases List.mem_append.1 hq with hq | hq
  · exact h.2 q hq hb s hs
  · obtain rfl := List.mem_singleton.1 hq; exact h2 hb s hs⟩
theorem mark_all (hm : ∀ r ∈ t, pmay r.p = true) {on : List Bool} (h : Mk bits (waysF bits t) t on) {n : Nat} (hn : n < (waysF bits t).length) : on[n]? = some true := by
  have hW := ways_ok (bits := bits) hm
  obtain ⟨v, hv⟩ : ∃ v, (waysF bits t)[n]? = some v := ⟨(waysF bits t)[n], by simp [hn]⟩
  rcases ways_mem (List.mem_of_getElem? hv) with rfl | ⟨r, hr, hbr, s, h5, h6, rfl⟩
  · rw [get_inj hW.nodup hv hW.root]; exact h.1
  · have := h.2 r hr hbr s (List.mem_of_getElem? hv)
    rwa [get_idx hW.nodup hv] at this
end
end Go.Kb

/- The best route of a table, by halving, and by its trie. No program in sight. -/
namespace Go.Kb

/-! Search by halving. -/
def bsl (p : Nat → Bool) : Nat → Nat → Nat → Nat
  | 0, i, _ => i
  | f + 1, i, j => if i < j then (if p ((i + j) / 2) = true then bsl p f i ((i + j) / 2) else bsl p f ((i + j) / 2 + 1) j) else i
def bs (p : Nat → Bool) (n : Nat) : Nat := bsl p (n + 1) 0 n
theorem bsl_more (p : Nat → Bool) : ∀ (f g i j : Nat), j - i < f → j - i < g → bsl p f i j = bsl p g i j
  | 0, _, _, _, h, _ => by omega
  | _ + 1, 0, _, _, _, h => by omega
  | f + 1, g + 1, i, j, h1, h2 => by
    rw [bsl, bsl]
    split
    · split
      · exact bsl_more p f g _ _ (by omega) (by omega)
      · exact bsl_more p f g _ _ (by omega) (by omega)
    · rfl
theorem bsl_step {p : Nat → Bool} {f i j : Nat} (h : i < j) (hf : j - i < f) : bsl p f i j = if p ((i + j) / 2) = true then bsl p f i ((i + j) / 2) else bsl p f ((i + j) / 2 + 1) j := by
  match f, hf with
  | f + 1, hf =>
    rw [bsl, if_pos h]
    split
    · exact bsl_more p f (f + 1) _ _ (by omega) (by omega)
    · exact bsl_more p f (f + 1) _ _ (by omega) (by omega)
theorem bsl_stop {p : Nat → Bool} {f i j : Nat} (h : ¬ i < j) (hf : 0 < f) : bsl p f i j = i := by
  match f, hf with
  | f + 1, _ => rw [bsl, if_neg h]
theorem bsl_spec {p : Nat → Bool} {n : Nat} (hm : ∀ a b, a ≤ b → b < n → p a = true → p b = true) : ∀ (f i j : Nat), j - i < f → i ≤ j → j ≤ n → (∀ a, a < i → p a = false) → (∀ a, j ≤ a → a < n → p a = true) →
    bsl p f i j ≤ n ∧ (∀ a, a < bsl p f i j → p a = false) ∧ ∀ a, bsl p f i j ≤ a → a < n → p a = true
  | 0, _, _, h, _, _, _, _ => by omega
  | f + 1, i, j, h, hij, hjn, h1, h2 => by
    rw [bsl]
    split
    · rename_i hlt
      split
      · rename_i hp
        exact bsl_spec hm f _ _ (by omega) (by omega) (by omega) h1 fun a ha han => hm _ a ha han hp
      · rename_i hp
        refine bsl_spec hm f _ _ (by omega) (by omega) hjn (fun a ha => ?_) h2
        cases hpa : p a with
        | false => rfl
        | true => exact absurd (hm a ((i + j) / 2) (by omega) (by omega) hpa) hp
    · obtain rfl : i = j := by omega
      exact ⟨hjn, h1, h2⟩
theorem bs_spec {p : Nat → Bool} {n : Nat} (hm : ∀ a b, a ≤ b → b < n → p a = true → p b = true) : bs p n ≤ n ∧ (∀ a, a < bs p n → p a = false) ∧ ∀ a, bs p n ≤ a → a < n → p a = true :=
  bsl_spec hm (n + 1) 0 n (by omega) (Nat.zero_le _) (Nat.le_refl _) (fun a ha => by omega) (fun a h1 h2 => by omega)

/-! A prefix's place in a table. -/
def behind (t : List Rt) (q : Pfx) (j : Nat) : Bool := match t[j]? with
  | some r => !pless r.p q
  | none => true
def placeN (t : List Rt) (q : Pfx) : Nat := bs (behind t q) t.length
def placeB (t : List Rt) (q : Pfx) : Bool := match t[placeN t q]? with
  | some r => decide (r.p = q)
  | none => false
theorem bsl_le {p : Nat → Bool} : ∀ (f i j : Nat), i ≤ j → bsl p f i j ≤ j
  | 0, _, _, h => h
  | f + 1, i, j, h => by
    rw [bsl]; split
    · split
      · exact Nat.le_trans (bsl_le f _ _ (by omega)) (by omega)
      · exact bsl_le f _ _ (by omega)
    · exact h
theorem placeN_le (t : List Rt) (q : Pfx) : placeN t q ≤ t.length := bsl_le _ _ _ (Nat.zero_le _)

theorem placeB_eq (t : List Rt) (q : Pfx) : placeB t q = (decide (((placeN t q : Nat) : Int) < (t.length : Int)) && decide ((t.getD (placeN t q) zroute).p = q)) := by
  rcases Nat.lt_or_ge (placeN t q) t.length with h | h
  · have e : t[placeN t q]? = some t[placeN t q] := by simp [h]
    rw [placeB, e, List.getD_eq_getElem?_getD, e]; simp [h]
  · rw [placeB, List.getElem?_eq_none h, decide_eq_false (by omega)]; rfl
def bestAt (t : List Rt) (k : Key) (bits : Int) (n : Nat) : Option Rt := if placeB t ⟨bits, n, kcut k n⟩ = true then t[placeN t ⟨bits, n, kcut k n⟩]? else none
def bestF (t : List Rt) (k : Key) (bits : Int) : Nat → Option Rt
  | 0 => bestAt t k bits 0
  | n + 1 => match bestAt t k bits (n + 1) with
    | some r => some r
    | none => bestF t k bits n
def bestO (t : List Rt) (k : Key) (bits : Int) : Bool := tright t && pmay ⟨bits, bits, k⟩
def bestR (t : List Rt) (k : Key) (bits : Int) : Rt := if bestO t k bits = true then (bestF t k bits bits.toNat).getD zroute else zroute
def bestE (t : List Rt) (k : Key) (bits : Int) : Int := if bestO t k bits = true then (if (bestF t k bits bits.toNat).isSome = true then 0 else 6) else 1

/-! In a right table. -/
theorem right_less {t : List Rt} (h : tright t = true) : ∀ (i j : Nat) (a b : Rt), i < j → t[i]? = some a → t[j]? = some b → pless a.p b.p = true := by
  intro i j
  induction j with
  | zero => intro a b hij; omega
  | succ j ih =>
    intro a b hij ha hb
    have hjl := (List.getElem?_eq_some_iff.1 hb).1
    obtain ⟨c, hc⟩ : ∃ c, t[j]? = some c := ⟨t[j], by simp [show j < t.length by omega]⟩
    have hcb : pless c.p b.p = true := by
      cases hx : pless c.p b.p with
      | true => rfl
      | false =>
        have := tright_no hjl (by rw [okAt_succ hb hc, hx]; simp)
        rw [this] at h; cases h
    rcases Nat.lt_or_ge i j with h1 | h1
    · have hac := ih a c h1 ha hc
      have m1 := tr_may h (List.mem_of_getElem? ha)
      have m2 := tr_may h (List.mem_of_getElem? hb)
      have m3 := tr_may h (List.mem_of_getElem? hc)
      rw [pless_iff m1 m3] at hac
      rw [pless_iff m3 m2] at hcb
      rw [pless_iff m1 m2]
      omega
    · obtain rfl : i = j := by omega
      obtain rfl := Option.some.inj (ha.symm.trans hc)
      exact hcb
theorem less_irr {p : Pfx} (h : pmay p = true) : pless p p = false := by
  cases hx : pless p p with
  | false => rfl
  | true => rw [pless_iff h h] at hx; omega
theorem right_uniq {t : List Rt} (h : tright t = true) {a b : Rt} (ha : a ∈ t) (hb : b ∈ t) (e : a.p = b.p) : a = b := by
  obtain ⟨i, hi⟩ := List.mem_iff_getElem?.1 ha
  obtain ⟨j, hj⟩ := List.mem_iff_getElem?.1 hb
  rcases Nat.lt_trichotomy i j with h1 | h1 | h1
  · have := right_less h i j a b h1 hi hj
    rw [e, less_irr (tr_may h hb)] at this; cases this
  · subst h1; exact Option.some.inj (hi.symm.trans hj)
  · have := right_less h j i b a h1 hj hi
    rw [e, less_irr (tr_may h hb)] at this; cases this
theorem behind_mono {t : List Rt} (h : tright t = true) {q : Pfx} (hq : pmay q = true) (a b : Nat) (hab : a ≤ b) (hb : b < t.length) (ha : behind t q a = true) : behind t q b = true := by
  obtain ⟨x, hx⟩ : ∃ x, t[a]? = some x := ⟨t[a], by simp [show a < t.length by omega]⟩
  obtain ⟨y, hy⟩ : ∃ y, t[b]? = some y := ⟨t[b], by simp [hb]⟩
  simp only [behind, hx, hy, Bool.not_eq_true'] at ha ⊢
  rcases Nat.lt_or_ge a b with h1 | h1
  · have hl := right_less h a b x y h1 hx hy
    have m1 := tr_may h (List.mem_of_getElem? hx)
    have m2 := tr_may h (List.mem_of_getElem? hy)
    cases hz : pless y.p q with
    | false => rfl
    | true =>
      rw [pless_iff m1 m2] at hl
      rw [pless_iff m2 hq] at hz
      have : pless x.p q = true := by rw [pless_iff m1 hq]; omega
      rw [this] at ha; cases ha
  · obtain rfl : a = b := by omega
    obtain rfl := Option.some.inj (hx.symm.trans hy)
    exact ha
theorem place_some {t : List Rt} (h : tright t = true) {q : Pfx} (hq : pmay q = true) {r : Rt} (hr : r ∈ t) (e : r.p = q) : t[placeN t q]? = some r ∧ placeB t q = true := by
  obtain ⟨h1, h2, h3⟩ := bs_spec (p := behind t q) (n := t.length) fun a b => behind_mono h hq a b
  obtain ⟨i, hi⟩ := List.mem_iff_getElem?.1 hr
  have hil := (List.getElem?_eq_some_iff.1 hi).1
  have e1 : placeN t q = i := by
    have hbi : behind t q i = true := by simp only [behind, hi, e, less_irr hq]; rfl
    rcases Nat.lt_trichotomy (placeN t q) i with h4 | h4 | h4
    · obtain ⟨x, hx⟩ : ∃ x, t[placeN t q]? = some x := ⟨t[placeN t q], by simp [show placeN t q < t.length by omega]⟩
      have h5 := h3 (placeN t q) (Nat.le_refl _) (by omega)
      have h6 := right_less h _ _ x r h4 hx hi
      simp only [behind, hx] at h5
      rw [e] at h6; rw [h6] at h5; cases h5
    · exact h4
    · have := h2 i h4; rw [this] at hbi; cases hbi
  rw [placeB, e1, hi]
  exact ⟨rfl, by simp [e]⟩
theorem place_in {t : List Rt} {q : Pfx} (h : placeB t q = true) : ∃ r ∈ t, t[placeN t q]? = some r ∧ r.p = q := by
  rw [placeB] at h
  cases e : t[placeN t q]? with
  | none => rw [e] at h; cases h
  | some r => rw [e] at h; exact ⟨r, List.mem_of_getElem? e, rfl, by simpa using h⟩

section
variable {t : List Rt} {k : Key} {bits : Int}
theorem cut_may (hb : bits = 32 ∨ bits = 128) {n : Nat} (hn : (n : Int) ≤ bits) : pmay ⟨bits, n, kcut k n⟩ = true :=
  (pmay_iff _).2 ⟨hb, by simp, hn, by simp only; rw [kcut_cut]; congr 1; omega⟩
theorem bestAt_some (h : tright t = true) (hb : bits = 32 ∨ bits = 128) {n : Nat} (hn : (n : Int) ≤ bits) {r : Rt} : bestAt t k bits n = some r ↔ r ∈ t ∧ r.p = ⟨bits, n, kcut k n⟩ := by
  constructor
  · intro e
    unfold bestAt at e
    split at e
    · rename_i hp
      obtain ⟨r', h1, h2, h3⟩ := place_in hp
      rw [h2] at e
      obtain rfl := Option.some.inj e
      exact ⟨h1, h3⟩
    · cases e
  · rintro ⟨h1, h2⟩
    obtain ⟨h3, h4⟩ := place_some h (cut_may hb hn) h1 h2
    rw [bestAt, if_pos h4, h3]
theorem bestF_some (h : tright t = true) (hb : bits = 32 ∨ bits = 128) : ∀ {n : Nat} {r : Rt}, (n : Int) ≤ bits → bestF t k bits n = some r → r ∈ t ∧ (∃ m : Nat, m ≤ n ∧ r.p = ⟨bits, m, kcut k m⟩) ∧ ∀ q ∈ t, ∀ m : Nat, m ≤ n → q.p = ⟨bits, m, kcut k m⟩ → q.p.len ≤ r.p.len
  | 0, r, hn, e => by
    obtain ⟨h1, h2⟩ := (bestAt_some h hb hn).1 e
    exact ⟨h1, ⟨0, Nat.le_refl _, h2⟩, fun q _ m hm hq => by rw [hq, h2]; simp; omega⟩
  | n + 1, r, hn, e => by
    rw [bestF] at e
    cases hx : bestAt t k bits (n + 1) with
    | some r' =>
      rw [hx] at e
      obtain rfl := Option.some.inj e
      obtain ⟨h1, h2⟩ := (bestAt_some h hb hn).1 hx
      exact ⟨h1, ⟨n + 1, Nat.le_refl _, h2⟩, fun q _ m hm hq => by rw [hq, h2]; simp; omega⟩
    | none =>
      rw [hx] at e
      obtain ⟨h1, ⟨m, hm, h2⟩, h3⟩ := bestF_some h hb (by omega) e
      refine ⟨h1, ⟨m, by omega, h2⟩, fun q hq m' hm' e' => ?_⟩
      rcases Nat.lt_or_ge n m' with h4 | h4
      · obtain rfl : m' = n + 1 := by omega
        rw [(bestAt_some h hb hn).2 ⟨hq, e'⟩] at hx; cases hx
      · exact h3 q hq m' h4 e'
theorem bestF_none (h : tright t = true) (hb : bits = 32 ∨ bits = 128) : ∀ {n : Nat}, (n : Int) ≤ bits → bestF t k bits n = none → ∀ q ∈ t, ∀ m : Nat, m ≤ n → q.p ≠ ⟨bits, m, kcut k m⟩
  | 0, hn, e => fun q hq m hm e' => by
    obtain rfl : m = 0 := by omega
    rw [bestF, (bestAt_some h hb hn).2 ⟨hq, e'⟩] at e; cases e
  | n + 1, hn, e => fun q hq m hm e' => by
    rw [bestF] at e
    cases hx : bestAt t k bits (n + 1) with
    | some r' => rw [hx] at e; cases e
    | none =>
      rw [hx] at e
      rcases Nat.lt_or_ge n m with h4 | h4
      · obtain rfl : m = n + 1 := by omega
        rw [(bestAt_some h hb hn).2 ⟨hq, e'⟩] at hx; cases hx
      · exact bestF_none h hb (by omega) e q hq m h4 e'
theorem fit_cut {r : Rt} (hbits : r.p.bits = bits) (hf : pfits r.p k = true) : ∃ m : Nat, (m : Int) ≤ bits ∧ r.p = ⟨bits, m, kcut k m⟩ := by
  obtain ⟨h1, _, h3⟩ := (pfits_iff _ _).1 hf
  obtain ⟨_, h4, h5, _⟩ := (pmay_iff _).1 h1
  refine ⟨r.p.len.toNat, by omega, ?_⟩
  obtain ⟨⟨b, l, q⟩, hop⟩ := r
  simp only at *
  have : ((l.toNat : Nat) : Int) = l := by omega
  rw [this, h3, hbits]
theorem cut_fit (hb : bits = 32 ∨ bits = 128) (hk : kcut k bits = k) {r : Rt} {m : Nat} (hm : (m : Int) ≤ bits) (e : r.p = ⟨bits, m, kcut k m⟩) : r.p.bits = bits ∧ pfits r.p k = true := by
  refine ⟨by rw [e], (pfits_iff _ _).2 ⟨by rw [e]; exact cut_may hb hm, by rw [e]; exact hk, by rw [e]⟩⟩

/-! What a trie finds. -/
theorem hit_fit {r : Rt} (hm : pmay r.p = true) (hb : bits = 32 ∨ bits = 128) {s : Nat} (hs : 4 * ((s : Int) + 1) ≤ bits) : hit r bits (wayAt k s) (kst k s) = true ↔ r.p.bits = bits ∧ lastN r.p = s ∧ kcut k r.p.len = r.p.key := by
  have hk2 : rset (wayAt k s).key (wayAt k s).steps (kst k s) = kcut k ((4 * (s + 1) : Nat) : Int) := congrArg Wy.key (child_wayAt k s (by omega))
  obtain ⟨h1, h2, h3, h4⟩ := (pmay_iff _).1 hm
  simp only [hit, Bool.and_eq_true, decide_eq_true_eq]
  rw [hk2, pfits_iff]
  constructor
  · rintro ⟨⟨h5, h6⟩, h7, h8, h9⟩
    have h6' : lastN r.p = s := h6
    refine ⟨h5, h6', ?_⟩
    rw [kcut_cut] at h9
    have : min ((4 * (s + 1) : Nat) : Int) r.p.len = r.p.len := by unfold lastN at h6'; omega
    rwa [this] at h9
  · rintro ⟨h5, h6, h7⟩
    refine ⟨⟨h5, h6⟩, hm, ?_, ?_⟩
    · rw [kcut_cut]; congr 1; omega
    · rw [kcut_cut]
      have : min ((4 * (s + 1) : Nat) : Int) r.p.len = r.p.len := by unfold lastN at h6; omega
      rw [this, h7]
theorem slot_best {w : Wy} {b : Nat} : ∀ (R : List Rt) (s : Slt) (S : Rt → Prop), (∀ r ∈ R, pmay r.p = true) →
    ((s = Slt.no ∧ ∀ r, ¬ S r) ∨ ∃ r, S r ∧ s = ⟨r.p.len + 1, r.hop⟩ ∧ ∀ q, S q → q.p.len ≤ r.p.len) →
    (R.foldl (slotUp bits w b) s = Slt.no ∧ ∀ r, ¬ (S r ∨ r ∈ R ∧ hit r bits w b = true)) ∨ ∃ r, (S r ∨ r ∈ R ∧ hit r bits w b = true) ∧ R.foldl (slotUp bits w b) s = ⟨r.p.len + 1, r.hop⟩ ∧ ∀ q, (S q ∨ q ∈ R ∧ hit q bits w b = true) → q.p.len ≤ r.p.len
  | [], s, S, _, h => by
    rcases h with ⟨h1, h2⟩ | ⟨r, h1, h2, h3⟩
    · exact .inl ⟨h1, fun r hr => by rcases hr with hr | ⟨hr, _⟩; exact h2 r hr; cases hr⟩
    · exact .inr ⟨r, .inl h1, h2, fun q hq => by rcases hq with hq | ⟨hq, _⟩; exact h3 q hq; cases hq⟩
  | a :: R, s, S, hm, h => by
    have hl := ((pmay_iff a.p).1 (hm a (by simp))).2.1
    have ih := slot_best (w := w) (b := b) R (slotUp bits w b s a) (fun r => S r ∨ r = a ∧ hit a bits w b = true) (fun r hr => hm r (by simp [hr])) (by
      unfold slotUp
      by_cases hh : hit a bits w b = true
      · rcases h with ⟨h1, h2⟩ | ⟨r, h1, h2, h3⟩
        · refine .inr ⟨a, .inr ⟨rfl, hh⟩, ?_, fun q hq => ?_⟩
          · rw [if_pos ⟨hh, by rw [h1]; exact hl⟩]
          · rcases hq with hq | ⟨hq, _⟩
            · exact absurd hq (h2 q)
            · rw [hq]; exact Int.le_refl _
        · by_cases hc : r.p.len + 1 ≤ a.p.len
          · refine .inr ⟨a, .inr ⟨rfl, hh⟩, ?_, fun q hq => ?_⟩
            · rw [if_pos ⟨hh, by rw [h2]; exact hc⟩]
            · rcases hq with hq | ⟨hq, _⟩
              · have := h3 q hq; omega
              · rw [hq]; exact Int.le_refl _
          · refine .inr ⟨r, .inl h1, ?_, fun q hq => ?_⟩
            · rw [if_neg (by rw [h2]; exact fun h9 => hc h9.2)]; exact h2
            · rcases hq with hq | ⟨hq, _⟩
              · exact h3 q hq
              · rw [hq]; omega
      · rcases h with ⟨h1, h2⟩ | ⟨r, h1, h2, h3⟩
        · refine .inl ⟨by rw [if_neg (fun h9 => hh h9.1)]; exact h1, fun r hr => ?_⟩
          rcases hr with hr | ⟨_, hr⟩
          · exact h2 r hr
          · exact hh hr
        · refine .inr ⟨r, .inl h1, by rw [if_neg (fun h9 => hh h9.1)]; exact h2, fun q hq => ?_⟩
          rcases hq with hq | ⟨_, hq⟩
          · exact h3 q hq
          · exact absurd hq hh)
    have eqv : ∀ r, ((S r ∨ r = a ∧ hit a bits w b = true) ∨ r ∈ R ∧ hit r bits w b = true) ↔ (S r ∨ r ∈ a :: R ∧ hit r bits w b = true) := fun r => by
      constructor
      · rintro ((h1 | ⟨rfl, h2⟩) | ⟨h1, h2⟩)
        · exact .inl h1
        · exact .inr ⟨by simp, h2⟩
        · exact .inr ⟨by simp [h1], h2⟩
      · rintro (h1 | ⟨h1, h2⟩)
        · exact .inl (.inl h1)
        · rcases List.mem_cons.1 h1 with rfl | h1
          · exact .inl (.inr ⟨rfl, h2⟩)
          · exact .inr ⟨h1, h2⟩
    rw [List.foldl_cons]
    rcases ih with ⟨h1, h2⟩ | ⟨r, h1, h2, h3⟩
    · exact .inl ⟨h1, fun r hr => h2 r ((eqv r).2 hr)⟩
    · exact .inr ⟨r, (eqv r).1 h1, h2, fun q hq => h3 q ((eqv q).2 hq)⟩
def Fit (t : List Rt) (k : Key) (bits : Int) (n : Nat) (r : Rt) : Prop := r ∈ t ∧ r.p.bits = bits ∧ kcut k r.p.len = r.p.key ∧ lastN r.p < n
theorem best_steps (h : tright t = true) (hb : bits = 32 ∨ bits = 128) (hl : (waysF bits t).length ≤ 512) : ∀ n, n ≤ deepT bits t k + 1 →
    (bestOf (nodes bits (waysF bits t) t) k n = Slt.no ∧ ∀ r, ¬ Fit t k bits n r) ∨ ∃ r, Fit t k bits n r ∧ bestOf (nodes bits (waysF bits t) t) k n = ⟨r.p.len + 1, r.hop⟩ ∧ ∀ q, Fit t k bits n q → q.p.len ≤ r.p.len
  | 0, _ => .inl ⟨rfl, fun r hr => absurd hr.2.2.2 (Nat.not_lt_zero _)⟩
  | n + 1, hn => by
    have hm : ∀ r ∈ t, pmay r.p = true := fun r hr => tr_may h hr
    have hW := ways_bits hb hm
    have hd := deepT_lt hb hm k
    have hin : ∀ j, j ≤ n → wayAt k j ∈ waysF bits t := fun j hj => (deepT_iff hb hm k).2 (by omega)
    have hc := chain_at (bits := bits) (R := t) hW.w (k := k) (n := n) (by omega) hin
    have hget := idx_get (hin n (Nat.le_refl _))
    have hroom := hW.room _ (hin n (Nat.le_refl _))
    have hroom' : 4 * ((n : Int) + 1) ≤ bits := hroom
    have hs := slot_best (bits := bits) (w := wayAt k n) (b := kst k n) t Slt.no (fun _ => False) hm (.inl ⟨rfl, fun _ h => h⟩)
    have hsl : ((nodes bits (waysF bits t) t).getD (chain (nodes bits (waysF bits t) t) k n) Nd.zero).sl (kst k n) = t.foldl (slotUp bits (wayAt k n) (kst k n)) Slt.no := by
      rw [hc, nodes_getD hget, nodeF, Nd.sl_mk' (kst_lt k n)]; rfl
    have hf : ∀ r, (False ∨ r ∈ t ∧ hit r bits (wayAt k n) (kst k n) = true) ↔ Fit t k bits (n + 1) r ∧ lastN r.p = n := fun r => by
      constructor
      · rintro (h1 | ⟨h1, h2⟩)
        · exact h1.elim
        · obtain ⟨h3, h4, h5⟩ := (hit_fit (hm r h1) hb hroom').1 h2
          exact ⟨⟨h1, h3, h5, by omega⟩, h4⟩
      · rintro ⟨⟨h1, h3, h5, _⟩, h4⟩
        exact .inr ⟨h1, (hit_fit (hm r h1) hb hroom').2 ⟨h3, h4, h5⟩⟩
    have hup : ∀ r, Fit t k bits n r → Fit t k bits (n + 1) r := fun r hr => ⟨hr.1, hr.2.1, hr.2.2.1, by have := hr.2.2.2; omega⟩
    have hdn : ∀ r, Fit t k bits (n + 1) r → Fit t k bits n r ∨ lastN r.p = n := fun r hr => by
      rcases Nat.lt_or_ge (lastN r.p) n with h9 | h9
      · exact .inl ⟨hr.1, hr.2.1, hr.2.2.1, h9⟩
      · have := hr.2.2.2; exact .inr (by omega)
    have hlen : ∀ r, Fit t k bits n r → ∀ q, lastN q.p = n → q ∈ t → r.p.len < q.p.len := fun r hr q hq hqt => by
      have h9 := hr.2.2.2
      have hq0 := ((pmay_iff q.p).1 (hm q hqt)).2.1
      unfold lastN at h9 hq; omega
    simp only [bestOf]
    rw [hsl]
    rcases best_steps h hb hl n (by omega) with ⟨h1, h2⟩ | ⟨r, h1, h2, h3⟩
    · rw [h1]
      rcases hs with ⟨h4, h5⟩ | ⟨q, h4, h5, h6⟩
      · rw [h4, if_neg (by decide)]
        refine .inl ⟨rfl, fun r hr => ?_⟩
        rcases hdn r hr with h9 | h9
        · exact h2 r h9
        · exact h5 r ((hf r).2 ⟨hr, h9⟩)
      · obtain ⟨h7, h8⟩ := (hf q).1 h4
        have hq0 := ((pmay_iff q.p).1 (hm q h7.1)).2.1
        rw [h5, if_pos (by show (0 : Int) < q.p.len + 1; omega)]
        refine .inr ⟨q, h7, rfl, fun r hr => ?_⟩
        rcases hdn r hr with h9 | h9
        · exact absurd h9 (h2 r)
        · exact h6 r ((hf r).2 ⟨hr, h9⟩)
    · rw [h2]
      rcases hs with ⟨h4, h5⟩ | ⟨q, h4, h5, h6⟩
      · have hr0 := ((pmay_iff r.p).1 (hm r h1.1)).2.1
        rw [h4, if_neg (by show ¬ r.p.len + 1 < 0; omega)]
        refine .inr ⟨r, hup r h1, rfl, fun q hq => ?_⟩
        rcases hdn q hq with h9 | h9
        · exact h3 q h9
        · exact absurd ((hf q).2 ⟨hq, h9⟩) (h5 q)
      · obtain ⟨h7, h8⟩ := (hf q).1 h4
        have hlt := hlen r h1 q h8 h7.1
        rw [h5, if_pos (by show r.p.len + 1 < q.p.len + 1; omega)]
        refine .inr ⟨q, h7, rfl, fun r' hr => ?_⟩
        rcases hdn r' hr with h9 | h9
        · have := h3 r' h9; omega
        · exact h6 r' ((hf r').2 ⟨hr, h9⟩)
theorem trie_best (h : tright t = true) (hb : bits = 32 ∨ bits = 128) (hl : (waysF bits t).length ≤ 512) :
    findE bits (nodes bits (waysF bits t) t) k = bestE t k bits ∧ findN bits (nodes bits (waysF bits t) t) k = (bestR t k bits).p.len ∧ findH bits (nodes bits (waysF bits t) t) k = (bestR t k bits).hop := by
  have hm : ∀ r ∈ t, pmay r.p = true := fun r hr => tr_may h hr
  have hok := walkOk_eq hb hm hl k
  have hbo : bestO t k bits = decide (kcut k bits = k) := by
    rw [bestO, h, Bool.true_and]
    have : pmay ⟨bits, bits, k⟩ = true ↔ kcut k bits = k := by
      rw [pmay_iff]; exact ⟨fun h9 => h9.2.2.2, fun h9 => ⟨hb, by simp only; omega, Int.le_refl _, h9⟩⟩
    cases hx : pmay ⟨bits, bits, k⟩ with
    | true => rw [decide_eq_true (this.1 hx)]
    | false => rw [decide_eq_false (fun h9 => by rw [this.2 h9] at hx; cases hx)]
  by_cases hk : kcut k bits = k
  · rw [decide_eq_true hk] at hok hbo
    have hwl : (walkV bits (nodes bits (waysF bits t) t) k).length = deepT bits t k + 1 := by rw [walkV_eq hb hm hl hk]; simp
    have hall : ∀ r ∈ t, r.p.bits = bits → kcut k r.p.len = r.p.key → Fit t k bits (deepT bits t k + 1) r := fun r hr hbr hf => by
      refine ⟨hr, hbr, hf, ?_⟩
      have h1 := way_in hm hr hbr (Nat.le_refl _)
      have h2 : wayAt r.p.key (lastN r.p) = wayAt k (lastN r.p) := by
        have h0 := ((pmay_iff r.p).1 (hm r hr)).2.1
        rw [wayAt, wayAt, ← hf, kcut_cut]; congr 2; unfold lastN; omega
      rw [h2] at h1
      have := (deepT_iff hb hm k).1 h1
      omega
    have hbn : ((bits.toNat : Nat) : Int) = bits := by omega
    rcases best_steps (k := k) h hb hl (deepT bits t k + 1) (Nat.le_refl _) with ⟨h1, h2⟩ | ⟨r, h1, h2, h3⟩
    · have hfs : findS bits (nodes bits (waysF bits t) t) k = Slt.no := by rw [findS, hwl, h1]
      have he : findE bits (nodes bits (waysF bits t) t) k = 6 := by rw [findE, if_pos hok, hfs]; rfl
      have hbf : bestF t k bits bits.toNat = none := by
        cases hx : bestF t k bits bits.toNat with
        | none => rfl
        | some r =>
          obtain ⟨h4, ⟨m, h5, h6⟩, _⟩ := bestF_some h hb (by omega) hx
          exact absurd (hall r h4 (by rw [h6]) (by rw [h6])) (h2 r)
      refine ⟨by rw [he, bestE, if_pos hbo, hbf]; rfl, by rw [findN, he, bestR, if_pos hbo, hbf]; rfl, by rw [findH, he, bestR, if_pos hbo, hbf]; rfl⟩
    · have hr0 := ((pmay_iff r.p).1 (hm r h1.1)).2.1
      have hfs : findS bits (nodes bits (waysF bits t) t) k = ⟨r.p.len + 1, r.hop⟩ := by rw [findS, hwl, h2]
      have he : findE bits (nodes bits (waysF bits t) t) k = 0 := by rw [findE, if_pos hok, hfs, if_neg (by show ¬ r.p.len + 1 = 0; omega)]
      have hrf : pfits r.p k = true := (pfits_iff _ _).2 ⟨hm r h1.1, by rw [h1.2.1]; exact hk, h1.2.2.1⟩
      obtain ⟨m, hm1, hm2⟩ := fit_cut h1.2.1 hrf
      have hbf : bestF t k bits bits.toNat = some r := by
        cases hx : bestF t k bits bits.toNat with
        | none => exact absurd hm2 (bestF_none h hb (by omega) hx r h1.1 m (by omega))
        | some q =>
          obtain ⟨h4, ⟨m', h5, h6⟩, h7⟩ := bestF_some h hb (by omega) hx
          have h8 := h7 r h1.1 m (by omega) hm2
          have h9 := h3 q (hall q h4 (by rw [h6]) (by rw [h6]))
          have h10 : m = m' := by rw [hm2, h6] at h8 h9; simp only at h8 h9; omega
          exact congrArg some (right_uniq h h4 h1.1 (by rw [h6, hm2, h10]))
      refine ⟨by rw [he, bestE, if_pos hbo, hbf]; rfl, ?_, ?_⟩
      · rw [findN, if_pos he, hfs, bestR, if_pos hbo, hbf]; show r.p.len + 1 - 1 = r.p.len; omega
      · rw [findH, if_pos he, hfs, bestR, if_pos hbo, hbf]; rfl
  · rw [decide_eq_false hk] at hok hbo
    have he : findE bits (nodes bits (waysF bits t) t) k = 1 := by rw [findE, if_neg (by rw [hok]; simp)]
    refine ⟨by rw [he, bestE, if_neg (by rw [hbo]; simp)], by rw [findN, if_neg (by rw [he]; decide), bestR, if_neg (by rw [hbo]; simp)]; rfl, by rw [findH, if_neg (by rw [he]; decide), bestR, if_neg (by rw [hbo]; simp)]; rfl⟩
end
end Go.Kb

/- A place in a table: walked. -/
namespace Go.Proofs.Ytklhkejhndnhbaa
open Go.Eng Go.Kb
instance : Enc pcells 18 := ⟨pcells_size, fun p => (inferInstance : SizeIs (pcells p) 18).one⟩
set_option maxRecDepth 20000 in
theorem tplace1_c (w : World) (b2 b3 : Nat) (s : Sv) (ss : List Rt) (q : Pfx) (j : Nat) (h2 : Lies senc 1 (hp w) ⟨false, b2, 0, 1, 1, none⟩ [s]) (h3 : Lies pcells 18 (hp w) ⟨false, b3, 0, 1, 1, none⟩ [q]) (hs : Lies rcells 19 (hp w) s ss) (hj : j < ss.length) : Calls Try.prog 49 #[.int .i64 (j : Nat), .pointer (some ⟨b2, 0, none⟩), .pointer (some ⟨b3, 0, none⟩)] w fun e w' => e = .returned (.bool (behind ss q j)) ∧ Mem w [] w' := by
  have g2 : Gv w ⟨false, b2, 0, 1, 1, none⟩ senc 1 [s] := ⟨h2⟩
  have g3 : Gv w ⟨false, b3, 0, 1, 1, none⟩ pcells 18 [q] := ⟨h3⟩
  have gs : Gv w s rcells 19 ss := ⟨hs⟩
  refine calls_of (args := [_, _, _]) Try.func49 rfl Try.ntmps49 rfl ?_
  change Cw _ _ _ _ _ [(0, .int .i64 (j : Nat)), (1, .pointer (some ⟨b2, 0, none⟩)), (2, .pointer (some ⟨b3, 0, none⟩))] []
  refine cw_seq ?_
  refine cw_region ?_
  refine sq_r (ry_assign rfl) ?_
  refine sq_nil ?_
  refine ex_then ?_
  refine cw_seq ?_
  refine cw_quiet (by kernel_rfl) (by kernel_rfl) ?_
  refine qt_r (ry_elemcH (s := ⟨false, b2, 0, 1, 1, none⟩) (enc := senc) (c := 1) (xs := [s]) (a := s) (j := 0) (v := s.val) rfl 0 rfl rfl (by decide)) ?_
  refine qt_r (ry_move rfl) ?_
  obtain ⟨r, hr⟩ := get_some (xs := ss) (i := j) (by omega)
  refine qt_r (ry_idxH rfl rfl j rfl (by omega)) ?_
  refine qt_r (ry_field rfl rfl) ?_
  refine qt_r (ry_elempH (j := 0) rfl j hr rfl (by decide)) ?_
  refine qt_r (ry_elemH (s := ⟨false, b3, 0, 1, 1, none⟩) (enc := pcells) (c := 18) (xs := [q]) (a := q) rfl 0 rfl rfl) ?_
  refine qt_y (yl_callC rfl trivial) ?_
  refine qt_r (ry_not rfl) ?_
  refine qt_r (ry_assign rfl) ?_
  refine qt_nil ?_
  refine ex_then ?_
  refine cw_ret ?_
  refine ex_ret (.inl rfl) (res_1 rfl (rv_tmp rfl)) (fun w1 hw => ?_)
  exact ⟨congrArg (fun b => Ending.returned (Value.bool b)) ((by simp only [behind, hr])), Keep.mem hw⟩

set_option maxRecDepth 20000 in
theorem tsearch_c (w : World) (n : Nat) (p : Nat → Bool) (f : FuncId) [hf : IsFn Try.prog f] (caps : Array Value) (hF : ∀ w', Mem w [] w' → ∀ j : Nat, j < n → Calls Try.prog f ([Value.int .i64 (j : Nat)] ++ caps.toList).toArray w' fun e w'' => e = .returned (.bool (p j)) ∧ Mem w' [] w'') (hn : n ≤ 1000000000) : Calls Try.prog 48 #[.int .i64 (n : Nat), .func (.func f) #[] caps] w fun e w' => e = .returned (.int .i64 (bs p n : Nat)) ∧ Mem w [] w' := by
  refine calls_of (args := [_, _]) Try.func48 rfl Try.ntmps48 rfl ?_
  change Cw _ _ _ _ _ [(0, .int .i64 (n : Nat)), (1, .func (.func f) #[] caps)] []
  refine cw_seq ?_
  refine cw_region ?_
  refine sq_r (ry_assign rfl) ?_
  refine sq_nil ?_
  refine ex_then ?_
  refine cw_seq ?_
  refine cw_region ?_
  refine sq_r (ry_move rfl) ?_
  refine sq_r (ry_assign rfl) ?_
  refine sq_r (ry_assign rfl) ?_
  refine sq_nil ?_
  refine ex_then ?_
  refine cw_seq ?_
  refine cw_block ?_
  refine cw_loop (X := Nat × Nat) (fun zz => [(5, .int .i64 (zz.1 : Nat)), (6, .int .i64 (zz.2 : Nat)), (1, .func (.func f) #[] caps)]) (fun zz => []) (fun zz => zz.1 ≤ zz.2 ∧ zz.2 ≤ n ∧ bsl p (n + 1) zz.1 zz.2 = bs p n) (fun zz => zz.2 - zz.1) (0, n) ⟨Nat.zero_le _, Nat.le_refl _, rfl⟩ (Sub.cons rfl (Sub.cons rfl (Sub.cons rfl (Sub.nil _)))) (fun w hw => Keep.mem hw) ?_
  rintro ⟨i, j⟩ ⟨hi1, hi2, hi3⟩
  dsimp only
  simp only at hi1 hi2 hi3
  refine cw_seq ?_
  refine cw_seq ?_
  refine cw_region ?_
  refine sq_r (ry_move rfl) ?_
  refine sq_r (ry_move rfl) ?_
  refine sq_r (ry_int rfl rfl rfl) ?_
  refine sq_nil ?_
  refine ex_then ?_
  refine cw_cond rfl (fun h0 => ?_) (fun h0 => ?_)
  · try simp only [bz0, bz1, bz2, bz3, bz4, bz5, bz6, bz7, bz8, bz9] at h0
    refine cw_skip ?_
    refine ex_then ?_
    refine cw_block ?_
    refine cw_seq ?_
    refine cw_region ?_
    refine sq_r (ry_move rfl) ?_
    refine sq_r (ry_move rfl) ?_
    refine sq_r (ry_add rfl rfl (by omega)) ?_
    refine sq_r (ry_convn (n := i + j) rfl (by simp only [nb]; omega)) ?_
    refine sq_r (ry_shr (p := i + j) rfl rfl (by simp only [nb]; omega) (by omega)) ?_
    refine sq_r (ry_convn (n := (i + j) / 2 ^ 1) rfl (by simp only [nb]; omega)) ?_
    refine sq_r (ry_assign rfl) ?_
    refine sq_nil ?_
    refine ex_then ?_
    refine cw_seq ?_
    refine cw_region ?_
    refine sq_r (ry_move rfl) ?_
    refine sq_r (ry_move rfl) ?_
    refine sq_y (yl_fcall rfl rfl (fun w1 hw1 => hF w1 hw1 ((i + j) / 2) (by omega))) ?_
    refine sq_r (ry_not rfl) ?_
    refine sq_nil ?_
    refine ex_then ?_
    refine cw_cond rfl (fun h1 => ?_) (fun h1 => ?_)
    · try simp only [bz0, bz1, bz2, bz3, bz4, bz5, bz6, bz7, bz8, bz9] at h1
      refine cw_region ?_
      refine sq_r (ry_move rfl) ?_
      refine sq_r (ry_add rfl rfl (by omega)) ?_
      refine sq_r (ry_assign rfl) ?_
      refine sq_nil ?_
      refine ex_block ?_
      exact ex_again (x := (i, j)) ((i + j) / 2 + 1, j) ⟨by first | omega | (simp only []; omega), hi2, by rw [← hi3, bsl_step (show i < j by first | omega | (simp only []; omega)) (by first | omega | (simp only []; omega)), if_neg (by rw [h1]; simp)]⟩ (by simp only; omega) (Sub.cons rfl (Sub.cons rfl (Sub.cons rfl (Sub.nil _)))) (fun w hw => Keep.mem hw)
    · try simp only [bz0, bz1, bz2, bz3, bz4, bz5, bz6, bz7, bz8, bz9] at h1
      refine cw_region ?_
      refine sq_r (ry_move rfl) ?_
      refine sq_r (ry_assign rfl) ?_
      refine sq_nil ?_
      refine ex_block ?_
      exact ex_again (x := (i, j)) (i, (i + j) / 2) ⟨by first | omega | (simp only []; omega), by first | omega | (simp only []; omega), by rw [← hi3, bsl_step (show i < j by first | omega | (simp only []; omega)) (by first | omega | (simp only []; omega)), if_pos h1]⟩ (by simp only; omega) (Sub.cons rfl (Sub.cons rfl (Sub.cons rfl (Sub.nil _)))) (fun w hw => Keep.mem hw)
  · try simp only [bz0, bz1, bz2, bz3, bz4, bz5, bz6, bz7, bz8, bz9] at h0
    refine cw_exit ?_
    refine ex_pass_exit ?_
    refine ex_pass_exit ?_
    refine ex_block_hit ?_
    refine ex_then ?_
    refine cw_seq ?_
    refine cw_region ?_
    refine sq_r (ry_move rfl) ?_
    refine sq_r (ry_assign rfl) ?_
    refine sq_nil ?_
    refine ex_then ?_
    refine cw_ret ?_
    refine ex_ret (.inl rfl) (res_1 rfl (rv_tmp rfl)) (fun w1 hw => ?_)
    exact ⟨congrArg (fun b => Ending.returned (Value.int .i64 b)) ((by rw [← hi3, bsl_stop (by omega) (by omega)])), Keep.mem hw⟩

set_option maxRecDepth 20000 in
theorem tplace_c (w : World) (t : Sv) (ts : List Rt) (p : Pfx) (ht : Lies rcells 19 (hp w) t ts) (hpre : ts.length ≤ 1000000) : Calls Try.prog 34 #[t.val, .agg (pcells p)] w fun e w' => e = .returned (.tuple #[.int .i64 ((placeN ts p : Nat) : Int), .bool (placeB ts p)]) ∧ Mem w [] w' := by
  have ght : Gv w t rcells 19 ts := ⟨ht⟩
  refine calls_of (args := [_, _]) Try.func34 rfl Try.ntmps34 rfl ?_
  change Cw _ _ _ _ _ [(0, t.val), (1, .agg (pcells p))] []
  refine cw_seq ?_
  refine cw_region ?_
  refine sq_box rfl fun b2 => ?_
  refine sq_boxA rfl fun b3 => ?_
  refine sq_r (ry_assign rfl) ?_
  refine sq_r (ry_assign rfl) ?_
  refine sq_nil ?_
  refine ex_then ?_
  refine cw_seq ?_
  refine cw_region ?_
  refine sq_r (ry_cellc rfl) ?_
  refine sq_r (ry_lenH rfl) ?_
  refine sq_r (ry_mkfunc (vs := [.pointer (some ⟨b2, 0, none⟩), .pointer (some ⟨b3, 0, none⟩)]) rfl) ?_
  refine sq_y (yl_call (v := .int .i64 (placeN ts p : Nat)) rfl (fun w1 hw1 => tsearch_c (f := 49) w1 ts.length (behind ts p) #[.pointer (some ⟨b2, 0, none⟩), .pointer (some ⟨b3, 0, none⟩)] (fun w2 hw2 j hj => tplace1_c w2 b2 b3 t ts p j ((holds_blk (b := b2) (cs := t.val.cells) (enc := senc) (xs := [t]) (n := 1) (by rw [Sv.cells_val]; rfl) rfl (by decide) w1 hw1).mono hw2.below) ((holds_blk (b := b3) (cs := pcells p) (enc := pcells) (c := 18) (xs := [p]) (n := 1) (by simp [flatR]) rfl (by decide) w1 hw1).mono hw2.below) (((inferInstance : Hd w _ t rcells 19 ts).h w1 hw1).mono hw2.below) hj) (by omega))) ?_
  refine sq_r (ry_assign rfl) ?_
  refine sq_nil ?_
  refine ex_then ?_
  refine cw_seq ?_
  refine cw_quiet (by kernel_rfl) (by kernel_rfl) ?_
  refine qt_r (ry_move rfl) ?_
  refine qt_r (ry_move rfl) ?_
  refine qt_r (ry_cellc rfl) ?_
  refine qt_r (ry_lenH rfl) ?_
  refine qt_r (ry_int rfl rfl rfl) ?_
  refine qt_r (ry_move rfl) ?_
  refine qt_gt rfl rfl rfl (fun hg => (Ry.yl (ry_cellc rfl))) ?_
  refine qt_gt rfl rfl rfl (fun hg => (Ry.yl (ry_move rfl))) ?_
  refine qt_gt rfl rfl rfl (fun hg => (Ry.yl (ry_idxH (ev_c hg rfl) (ev_c hg rfl) (placeN ts p) rfl (by simp only [bz0, bz1, bz2, bz3, bz4, bz5, bz6, bz7, bz8, bz9] at hg; omega)))) ?_
  refine qt_gt rfl rfl rfl (fun hg => (Ry.yl (ry_field (ev_c hg rfl) rfl))) ?_
  refine qt_gt rfl rfl rfl (fun hg => (Ry.yl (ry_elempH (j := 0) (ev_c hg rfl) (placeN ts p) (get_getD (xs := ts) (i := (placeN ts p)) (d := zroute) (by simp only [bz0, bz1, bz2, bz3, bz4, bz5, bz6, bz7, bz8, bz9] at hg; omega)) rfl (by decide)))) ?_
  refine qt_gt rfl rfl rfl (fun hg => (Ry.yl (ry_whole rfl))) ?_
  refine qt_gt rfl rfl rfl (fun hg => (Ry.yl (ry_eq (ev_c hg rfl) (ev_c hg rfl)))) ?_
  refine qt_r (ry_and rfl rfl rfl) ?_
  refine qt_r (ry_assign rfl) ?_
  refine qt_r (ry_assign rfl) ?_
  refine qt_nil ?_
  refine ex_then ?_
  refine cw_ret ?_
  refine ex_ret (.inl rfl) (res_2 rfl (rv_tmp rfl) (rv_tmp rfl)) (fun w1 hw => ?_)
  exact ⟨(by rw [placeB_eq]), Keep.mem hw⟩
instance tplace_i {w0 : World} {L : List Ent} {t : Sv} {ts : List Rt} {p : Pfx} [ht : HdE w0 L rcells 19 t ts] : FnQ Try.prog 34 w0 L [t.val, .agg (pcells p)] (.tuple #[.int .i64 ((placeN ts p : Nat) : Int), .bool (placeB ts p)]) (ts.length ≤ 1000000) := ⟨fun hp w hw => tplace_c w t ts p (ht.h w hw) hp⟩

end Go.Proofs.Ytklhkejhndnhbaa

/- The best route of a table: walked. -/
namespace Go.Proofs.Ytklhkejhndnhbaa
open Go.Eng Go.Kb
set_option maxRecDepth 20000 in
theorem tbest_c (w : World) (t : Sv) (ts : List Rt) (k : Key) (bits : Int) (ht : Lies rcells 19 (hp w) t ts) : Calls Try.prog 13 #[t.val, .agg (kcells k), .int .i64 bits] w fun e w' => e = .returned (.tuple #[.agg (rcells (bestR ts k bits)), .int .i64 (bestE ts k bits)]) ∧ Mem w [] w' := by
  have ght : Gv w t rcells 19 ts := ⟨ht⟩
  refine calls_of (args := [_, _, _]) Try.func13 rfl Try.ntmps13 rfl ?_
  change Cw _ _ _ _ _ [(0, t.val), (1, .agg (kcells k)), (2, .int .i64 bits)] []
  refine cw_seq ?_
  refine cw_region ?_
  refine sq_boxA rfl fun b4 => ?_
  refine sq_allocA fun b6 => ?_
  refine sq_r (ry_assign rfl) ?_
  refine sq_nil ?_
  refine ex_then ?_
  refine cw_seq ?_
  refine cw_seq ?_
  refine cw_region ?_
  refine sq_r (ry_move rfl) ?_
  refine sq_y (yl_callC rfl trivial) ?_
  refine sq_r (ry_not rfl) ?_
  refine sq_r (ry_move rfl) ?_
  refine sq_gf rfl rfl rfl (fun hg => (Ry.yl (ry_move rfl))) ?_
  refine sq_gf rfl rfl rfl (fun hg => (Ry.yl (ry_move rfl))) ?_
  refine sq_gf rfl rfl rfl (fun hg => (Ry.yl (ry_whole rfl))) ?_
  refine sq_gf rfl rfl rfl (fun hg => (Ry.yl (ry_buildc (evp_cons (ev_c hg rfl) (evp_cons (ev_c hg rfl) (evp_cons (ev_c hg rfl) evp_nil)))))) ?_
  refine sq_gf rfl rfl rfl (fun hg => yl_callC (evl_cons (ev_c hg rfl) evl_nil) trivial) ?_
  refine sq_gf rfl rfl rfl (fun hg => (Ry.yl (ry_not (ev_c hg rfl)))) ?_
  refine sq_r (ry_or rfl rfl rfl) ?_
  refine sq_nil ?_
  refine ex_then ?_
  refine cw_cond rfl (fun h0 => ?_) (fun h0 => ?_)
  · try simp only [bz0, bz1, bz2, bz3, bz4, bz5, bz6, bz7, bz8, bz9] at h0
    have hk : bestO ts k bits = false := by rw [bestO]; rcases h0 with h | h; rw [h]; rfl; rw [h]; simp
    refine cw_seq ?_
    refine cw_region ?_
    refine sq_r (ry_buildc rfl) ?_
    refine sq_storeW rfl rfl ?_
    refine sq_r (ry_assign rfl) ?_
    refine sq_nil ?_
    refine ex_then ?_
    refine cw_ret ?_
    refine ex_pass_ret ?_
    refine ex_ret (.inl rfl) (res_2 rfl (rv_agg rfl) (rv_tmp rfl)) (fun w1 hw => ?_)
    exact ⟨(by rw [bestR, if_neg (by rw [hk]; simp), bestE, if_neg (by rw [hk]; simp)]), Keep.mem hw⟩
  · try simp only [bz0, bz1, bz2, bz3, bz4, bz5, bz6, bz7, bz8, bz9] at h0
    have hr : tright ts = true := by simpa using h0.1
    have hk : bestO ts k bits = true := by rw [bestO, hr]; simpa using h0.2
    have hlen := tr_len hr
    have hb : bits = 32 ∨ bits = 128 := ((pmay_iff _).1 (by simpa using h0.2 : pmay ⟨bits, bits, k⟩ = true)).1
    refine cw_skip ?_
    refine ex_then ?_
    refine cw_seq ?_
    refine cw_seq ?_
    refine cw_region ?_
    refine sq_r (ry_move rfl) ?_
    refine sq_r (ry_assign rfl) ?_
    refine sq_nil ?_
    refine ex_then ?_
    refine cw_block ?_
    refine cw_loop (X := Int) (fun zz => [(8, .int .i64 zz), (0, t.val), (2, .int .i64 bits), (4, .pointer (some ⟨b4, 0, none⟩)), (6, .pointer (some ⟨b6, 0, none⟩))]) (fun zz => [blk b6 (rcells zroute) 57, blk b4 (kcells k) 24]) (fun zz => -1 ≤ zz ∧ zz ≤ bits ∧ (zz < 0 → bestF ts k bits bits.toNat = none) ∧ (∀ m : Nat, zz = m → bestF ts k bits bits.toNat = bestF ts k bits m)) (fun zz => (zz + 1).toNat) bits ⟨by first | omega | (simp only []; omega), Int.le_refl _, fun h => by first | omega | (simp only []; omega), fun m h => by rw [h]; rfl⟩ (Sub.cons rfl (Sub.cons rfl (Sub.cons rfl (Sub.cons rfl (Sub.cons rfl (Sub.nil _)))))) (fun w hw => Keep.mem hw) ?_
    rintro n ⟨hn0, hn1, hn2, hn4⟩
    refine cw_seq ?_
    refine cw_seq ?_
    refine cw_region ?_
    refine sq_r (ry_move rfl) ?_
    refine sq_r (ry_int rfl rfl rfl) ?_
    refine sq_nil ?_
    refine ex_then ?_
    refine cw_cond rfl (fun h1 => ?_) (fun h1 => ?_)
    · try simp only [bz0, bz1, bz2, bz3, bz4, bz5, bz6, bz7, bz8, bz9] at h1
      obtain ⟨m, rfl⟩ : ∃ m : Nat, n = (m : Int) := ⟨n.toNat, by omega⟩
      refine cw_skip ?_
      refine ex_then ?_
      refine cw_seq ?_
      refine cw_block ?_
      refine cw_seq ?_
      refine cw_region ?_
      refine sq_r (ry_move rfl) ?_
      refine sq_r (ry_move rfl) ?_
      refine sq_r (ry_whole rfl) ?_
      refine sq_r (ry_move rfl) ?_
      refine sq_y (yl_callC rfl trivial) ?_
      refine sq_r (ry_buildc rfl) ?_
      refine sq_allocA fun b9 => ?_
      refine sq_storeW rfl rfl ?_
      refine sq_nil ?_
      refine ex_then ?_
      refine cw_seq ?_
      refine cw_region ?_
      refine sq_r (ry_move rfl) ?_
      refine sq_r (ry_whole rfl) ?_
      refine sq_y (yl_callC rfl (by omega)) ?_
      refine sq_r (ry_move rfl) ?_
      refine sq_r (ry_extract (v := .int .i64 ((placeN ts (⟨bits, ((m : Nat) : Int), (kcut k ((m : Nat) : Int))⟩ : Pfx) : Nat) : Int)) rfl rfl) ?_
      refine sq_r (ry_extract (v := .bool (placeB ts (⟨bits, ((m : Nat) : Int), (kcut k ((m : Nat) : Int))⟩ : Pfx))) rfl rfl) ?_
      refine sq_r (ry_assign rfl) ?_
      refine sq_r (ry_assign rfl) ?_
      refine sq_nil ?_
      refine ex_then ?_
      refine cw_seq ?_
      refine cw_region ?_
      refine sq_r (ry_move rfl) ?_
      refine sq_nil ?_
      refine ex_then ?_
      refine cw_cond rfl (fun h2 => ?_) (fun h2 => ?_)
      · try simp only [bz0, bz1, bz2, bz3, bz4, bz5, bz6, bz7, bz8, bz9] at h2
        have hba : ∃ r, ts[placeN ts ⟨bits, m, kcut k m⟩]? = some r ∧ bestAt ts k bits m = some r := by obtain ⟨r, _, h8, _⟩ := place_in h2; exact ⟨r, h8, by rw [bestAt, if_pos h2, h8]⟩
        obtain ⟨r, hr1, hr2⟩ := hba
        have hbs : bestF ts k bits bits.toNat = some r := by rw [hn4 m rfl]; cases m with | zero => exact hr2 | succ m => rw [bestF, hr2]
        refine cw_seq ?_
        refine cw_region ?_
        refine sq_r (ry_move rfl) ?_
        refine sq_r (ry_move rfl) ?_
        refine sq_r (ry_idxH rfl rfl (placeN ts ⟨bits, m, kcut k m⟩) (by omega) (List.getElem?_eq_some_iff.1 hr1).1) ?_
        refine sq_r (ry_elemH rfl (placeN ts ⟨bits, m, kcut k m⟩) hr1 rfl) ?_
        refine sq_storeW rfl rfl ?_
        refine sq_r (ry_assign rfl) ?_
        refine sq_nil ?_
        refine ex_then ?_
        refine cw_ret ?_
        refine ex_block_ret ?_
        refine ex_pass_ret ?_
        refine ex_pass_ret ?_
        refine ex_block_ret ?_
        refine ex_pass_ret ?_
        refine ex_ret (.inl rfl) (res_2 rfl (rv_agg rfl) (rv_tmp rfl)) (fun w1 hw => ?_)
        exact ⟨(by rw [bestR, if_pos hk, bestE, if_pos hk, hbs]; rfl), Keep.mem hw⟩
      · try simp only [bz0, bz1, bz2, bz3, bz4, bz5, bz6, bz7, bz8, bz9] at h2
        have hba : bestAt ts k bits m = none := by rw [bestAt, if_neg (by rw [h2]; simp)]
        refine cw_skip ?_
        refine ex_block ?_
        refine ex_then ?_
        refine cw_region ?_
        refine sq_r (ry_move rfl) ?_
        refine sq_r (ry_sub rfl rfl (by omega)) ?_
        refine sq_r (ry_assign rfl) ?_
        refine sq_nil ?_
        exact ex_again (x := ((m : Nat) : Int)) ((m : Int) - 1) ⟨by first | omega | (simp only []; omega), by first | omega | (simp only []; omega), fun h => by obtain rfl : m = 0 := (by first | omega | (simp only []; omega)); rw [hn4 0 rfl]; exact hba, fun m2 h => by obtain rfl : m = m2 + 1 := (by first | omega | (simp only []; omega)); rw [hn4 _ rfl, bestF, hba]⟩ (by first | omega | (simp only []; omega)) (Sub.cons rfl (Sub.cons rfl (Sub.cons rfl (Sub.cons rfl (Sub.cons rfl (Sub.nil _)))))) (fun w hw => Keep.mem hw)
    · try simp only [bz0, bz1, bz2, bz3, bz4, bz5, bz6, bz7, bz8, bz9] at h1
      have hbn : bestF ts k bits bits.toNat = none := hn2 (by omega)
      refine cw_exit ?_
      refine ex_pass_exit ?_
      refine ex_pass_exit ?_
      refine ex_block_hit ?_
      refine ex_then ?_
      refine cw_seq ?_
      refine cw_region ?_
      refine sq_r (ry_buildc rfl) ?_
      refine sq_storeW rfl rfl ?_
      refine sq_r (ry_assign rfl) ?_
      refine sq_nil ?_
      refine ex_then ?_
      refine cw_ret ?_
      refine ex_ret (.inl rfl) (res_2 rfl (rv_agg rfl) (rv_tmp rfl)) (fun w1 hw => ?_)
      exact ⟨(by rw [bestR, if_pos hk, bestE, if_pos hk, hbn]; rfl), Keep.mem hw⟩
instance tbest_i {w0 : World} {L : List Ent} {t : Sv} {ts : List Rt} {k : Key} {bits : Int} [ht : HdE w0 L rcells 19 t ts] : FnQ Try.prog 13 w0 L [t.val, .agg (kcells k), .int .i64 bits] (.tuple #[.agg (rcells (bestR ts k bits)), .int .i64 (bestE ts k bits)]) (True) := ⟨fun hp w hw => tbest_c w t ts k bits (ht.h w hw)⟩

end Go.Proofs.Ytklhkejhndnhbaa

/- A trie's nodes as bytes. No program in sight. -/
namespace Go.Kb
open Go.Eng

def slotB (n : Nd) (b : Nat) : List UInt8 := [b8 (n.sl b).len.toNat, b8 ((n.sl b).hop.toNat / 256), b8 (n.sl b).hop.toNat, b8 ((n.nx b).toNat / 256), b8 (n.nx b).toNat]
def npre (n : Nd) : Nat → List UInt8
  | 0 => []
  | k + 1 => npre n k ++ slotB n k
def nbytes (n : Nd) : List UInt8 := npre n 16
theorem npre_length (n : Nd) : ∀ k, (npre n k).length = 5 * k
  | 0 => rfl
  | k + 1 => by simp [npre, npre_length n k, slotB]; omega
theorem nbytes_length (n : Nd) : (nbytes n).length = 80 := npre_length n 16
def okB (n : Nd) (b : Nat) : Bool := decide (0 ≤ (n.sl b).len ∧ (n.sl b).len ≤ 129 ∧ ((n.sl b).len = 0 → (n.sl b).hop = 0) ∧ 0 ≤ n.nx b ∧ n.nx b < 512)
def nmay (n : Nd) : Bool := (List.range 16).all (okB n)
theorem nmay_iff {n : Nd} : nmay n = true ↔ ∀ b, b < 16 → 0 ≤ (n.sl b).len ∧ (n.sl b).len ≤ 129 ∧ ((n.sl b).len = 0 → (n.sl b).hop = 0) ∧ 0 ≤ n.nx b ∧ n.nx b < 512 := by
  simp only [nmay, okB, List.all_eq_true, List.mem_range, decide_eq_true_eq]
theorem nmay_zero : nmay Nd.zero = true := nmay_iff.2 fun b _ => by rw [Nd.sl_zero, Nd.nx_zero]; decide
theorem nmay_no {n : Nd} {b : Nat} (hb : b < 16) (h : ¬ (0 ≤ (n.sl b).len ∧ (n.sl b).len ≤ 129 ∧ ((n.sl b).len = 0 → (n.sl b).hop = 0) ∧ 0 ≤ n.nx b ∧ n.nx b < 512)) : nmay n = false := by
  cases hn : nmay n with
  | false => rfl
  | true => exact absurd (nmay_iff.1 hn b hb) h
def slotG (xs : List UInt8) (b : Nat) : Slt := ⟨(xs.getD (5 * b) 0).toNat, hop16 (xs.getD (5 * b + 1) 0) (xs.getD (5 * b + 2) 0)⟩
def nextR (xs : List UInt8) (b : Nat) : Int := (((xs.getD (5 * b + 3) 0).toNat * 256 + (xs.getD (5 * b + 4) 0).toNat : Nat) : Int)
def ngetP (xs : List UInt8) (k : Nat) : Nd := Nd.mk' (fun b => if b < k then slotG xs b else Slt.no) (fun b => if b < k then nextR xs b else 0)
def nget (xs : List UInt8) : Nd := ngetP xs 16
theorem ngetP_zero (xs : List UInt8) : ngetP xs 0 = Nd.zero := by simp [ngetP, Nd.zero]
theorem ngetP_succ (xs : List UInt8) {k : Nat} (hk : k < 16) : ((ngetP xs k).setSl k (slotG xs k)).setNx k (nextR xs k) = ngetP xs (k + 1) := Nd.ext'
  (fun b hb => by
    rw [Nd.sl_setNx, Nd.sl_set hk, ngetP, ngetP, Nd.sl_mk' hb, Nd.sl_mk' hb]
    by_cases e : k = b
    · subst e; rw [if_pos rfl, if_pos (by omega)]
    · rw [if_neg e]; by_cases h : b < k
      · rw [if_pos h, if_pos (by omega)]
      · rw [if_neg h, if_neg (by omega)])
  (fun b hb => by
    rw [Nd.nx_set hk, Nd.nx_setSl, ngetP, ngetP, Nd.nx_mk' hb, Nd.nx_mk' hb]
    by_cases e : k = b
    · subst e; rw [if_pos rfl, if_pos (by omega)]
    · rw [if_neg e]; by_cases h : b < k
      · rw [if_pos h, if_pos (by omega)]
      · rw [if_neg h, if_neg (by omega)])
theorem nget_sl (xs : List UInt8) {b : Nat} (hb : b < 16) : (nget xs).sl b = slotG xs b := by rw [nget, ngetP, Nd.sl_mk' hb, if_pos hb]
theorem nget_nx (xs : List UInt8) {b : Nat} (hb : b < 16) : (nget xs).nx b = nextR xs b := by rw [nget, ngetP, Nd.nx_mk' hb, if_pos hb]
theorem npre_get (n : Nd) : ∀ {k b j : Nat}, b < k → j < 5 → (npre n k)[5 * b + j]? = (slotB n b)[j]?
  | k + 1, b, j, hb, hj => by
    unfold npre
    by_cases e : b = k
    · subst e
      rw [List.getElem?_append_right (by rw [npre_length]; omega), npre_length, show 5 * b + j - 5 * b = j by omega]
    · rw [List.getElem?_append_left (by rw [npre_length]; omega)]
      exact npre_get n (by omega) hj
theorem nbytes_at (n : Nd) {b j : Nat} (hb : b < 16) (hj : j < 5) : (nbytes n).getD (5 * b + j) 0 = (slotB n b).getD j 0 := by
  rw [List.getD_eq_getElem?_getD, List.getD_eq_getElem?_getD, nbytes, npre_get n hb hj]
theorem toNat_b8 {n : Nat} (h : n < 256) : (b8 n).toNat = n := by rw [b8_toNat, Nat.mod_eq_of_lt h]
theorem hop16_b8 (h : UInt16) : hop16 (b8 (h.toNat / 256)) (b8 h.toNat) = h := by
  apply UInt16.toNat.inj
  have := h.toNat_lt
  rw [hop16_toNat, b8_toNat, b8_toNat]; omega
theorem nget_nbytes {n : Nd} (h : nmay n = true) : nget (nbytes n) = n := Nd.ext'
  (fun b hb => by
    have hm := nmay_iff.1 h b hb
    have h0 := nbytes_at n hb (j := 0) (by decide)
    rw [Nat.add_zero] at h0
    rw [nget_sl _ hb, slotG, h0, nbytes_at n hb (by decide), nbytes_at n hb (by decide)]
    simp only [slotB, List.getD_cons_zero, List.getD_cons_succ]
    rw [hop16_b8, toNat_b8 (by omega)]
    have e : (((n.sl b).len.toNat : Nat) : Int) = (n.sl b).len := by omega
    rw [e])
  (fun b hb => by
    have hm := nmay_iff.1 h b hb
    rw [nget_nx _ hb, nextR, nbytes_at n hb (by decide), nbytes_at n hb (by decide)]
    simp only [slotB, List.getD_cons_zero, List.getD_cons_succ]
    rw [b8_toNat, b8_toNat]; omega)
theorem slotB_nget (xs : List UInt8) {b : Nat} (hb : b < 16) : slotB (nget xs) b = [xs.getD (5 * b) 0, xs.getD (5 * b + 1) 0, xs.getD (5 * b + 2) 0, xs.getD (5 * b + 3) 0, xs.getD (5 * b + 4) 0] := by
  have h1 := (xs.getD (5 * b + 1) 0).toNat_lt
  have h2 := (xs.getD (5 * b + 2) 0).toNat_lt
  have h3 := (xs.getD (5 * b + 3) 0).toNat_lt
  have h4 := (xs.getD (5 * b + 4) 0).toNat_lt
  rw [slotB, nget_sl _ hb, nget_nx _ hb, slotG, nextR]
  simp only [Int.toNat_natCast, hop16_toNat]
  rw [b8_of, show ((xs.getD (5 * b + 1) 0).toNat * 256 + (xs.getD (5 * b + 2) 0).toNat) / 256 = (xs.getD (5 * b + 1) 0).toNat by omega, b8_of,
    show ((xs.getD (5 * b + 3) 0).toNat * 256 + (xs.getD (5 * b + 4) 0).toNat) / 256 = (xs.getD (5 * b + 3) 0).toNat by omega, b8_of]
  rw [← b8_mod ((xs.getD (5 * b + 1) 0).toNat * 256 + (xs.getD (5 * b + 2) 0).toNat), ← b8_mod ((xs.getD (5 * b + 3) 0).toNat * 256 + (xs.getD (5 * b + 4) 0).toNat),
    show ((xs.getD (5 * b + 1) 0).toNat * 256 + (xs.getD (5 * b + 2) 0).toNat) % 256 = (xs.getD (5 * b + 2) 0).toNat by omega, b8_of,
    show ((xs.getD (5 * b + 3) 0).toNat * 256 + (xs.getD (5 * b + 4) 0).toNat) % 256 = (xs.getD (5 * b + 4) 0).toNat by omega, b8_of]
theorem nbytes_nget {xs : List UInt8} (hl : xs.length = 80) : nbytes (nget xs) = xs := by
  apply List.ext_getElem?
  intro i
  rcases Nat.lt_or_ge i 80 with h | h
  · have hb : i / 5 < 16 := by omega
    have e : i = 5 * (i / 5) + i % 5 := by omega
    have hj : i % 5 < 5 := by omega
    have key : (slotB (nget xs) (i / 5))[i % 5]? = some (xs.getD (5 * (i / 5) + i % 5) 0) := by
      rw [slotB_nget xs hb]
      generalize i % 5 = j at hj
      match j, hj with
      | 0, _ => rfl
      | 1, _ => rfl
      | 2, _ => rfl
      | 3, _ => rfl
      | 4, _ => rfl
    rw [e, nbytes, npre_get _ hb hj, key]
    simp [List.getD_eq_getElem?_getD, hl, show 5 * (i / 5) + i % 5 < 80 by omega]
  · rw [List.getElem?_eq_none (by rw [nbytes_length]; omega), List.getElem?_eq_none (by omega)]
theorem nbytes_inj {a b : Nd} (ha : nmay a = true) (hb : nmay b = true) : nbytes a = nbytes b ↔ a = b :=
  ⟨fun h => by rw [← nget_nbytes ha, h, nget_nbytes hb], fun h => by rw [h]⟩

def putB (n : Nd) : List UInt8 := if nmay n = true then nbytes n else []
def putE12 (n : Nd) : Int := if nmay n = true then 0 else 1
def readN (xs : List UInt8) : Nd := if xs.length = 80 ∧ nmay (nget xs) = true then nget xs else Nd.zero
def readE (xs : List UInt8) : Int := if xs.length = 80 then (if nmay (nget xs) = true then 0 else 2) else 3
theorem read_put {n : Nd} (h : nmay n = true) : readN (nbytes n) = n ∧ readE (nbytes n) = 0 := by
  rw [readN, readE, nget_nbytes h, if_pos ⟨nbytes_length n, h⟩, if_pos (nbytes_length n), if_pos h]
  exact ⟨rfl, rfl⟩
theorem read_set {a : Nd} (h : nmay a = true) {k : Nat} {c : UInt8} (hk : k < 80) (hc : (nbytes a)[k]? ≠ some c) : (readE ((nbytes a).set k c) = 0 ∧ readN ((nbytes a).set k c) ≠ a) ∨ (readE ((nbytes a).set k c) = 2 ∧ readN ((nbytes a).set k c) = Nd.zero) := by
  have hl : ((nbytes a).set k c).length = 80 := by rw [List.length_set, nbytes_length]
  rw [readE, readN, if_pos hl]
  by_cases hm : nmay (nget ((nbytes a).set k c)) = true
  · rw [if_pos hm, if_pos ⟨hl, hm⟩]
    refine .inl ⟨rfl, fun e => hc ?_⟩
    have h2 := nbytes_nget hl
    rw [e] at h2
    have h3 := congrArg (·[k]?) h2
    simp only [List.getElem?_set_self (show k < (nbytes a).length by rw [nbytes_length]; exact hk)] at h3
    exact h3
  · rw [if_neg hm, if_neg (fun h => hm h.2)]
    exact .inr ⟨rfl, rfl⟩

/-! Many nodes. -/
def allB (l : List Nd) : List UInt8 := l.flatMap nbytes
theorem allB_length (l : List Nd) : (allB l).length = 80 * l.length := by
  induction l with
  | nil => rfl
  | cons n l ih => rw [allB, List.flatMap_cons, List.length_append, nbytes_length]; simp only [allB] at ih; rw [ih, List.length_cons]; omega
theorem allB_snoc {l : List Nd} {i : Nat} {n : Nd} (h : l[i]? = some n) : allB (l.take (i + 1)) = allB (l.take i) ++ nbytes n := by
  rw [List.take_add_one, h]; simp [allB]
def allOk (l : List Nd) : Bool := decide (l.length ≤ 512) && l.all nmay
def part80 (xs : List UInt8) (i : Nat) : List UInt8 := (xs.drop (80 * i)).take 80
def readAllL (xs : List UInt8) (k : Nat) : List Nd := (List.range k).map fun i => nget (part80 xs i)
def okParts (xs : List UInt8) (k : Nat) : Bool := (List.range k).all fun i => nmay (nget (part80 xs i))
def rallE (xs : List UInt8) : Int := if xs.length % 80 ≠ 0 ∨ 40960 < xs.length then 3 else if okParts xs (xs.length / 80) = true then 0 else 2
def rallN (xs : List UInt8) : List Nd := if rallE xs = 0 then readAllL xs (xs.length / 80) else []
theorem part80_length {xs : List UInt8} {i : Nat} (h : i < xs.length / 80) : (part80 xs i).length = 80 := by
  rw [part80, List.length_take, List.length_drop]; omega
theorem readAll_succ (xs : List UInt8) (k : Nat) : readAllL xs (k + 1) = readAllL xs k ++ [nget (part80 xs k)] := by simp [readAllL, List.range_succ]
theorem readAll_length (xs : List UInt8) (k : Nat) : (readAllL xs k).length = k := by simp [readAllL]
theorem okParts_succ (xs : List UInt8) (k : Nat) : okParts xs (k + 1) = (okParts xs k && nmay (nget (part80 xs k))) := by simp [okParts, List.range_succ]
theorem okParts_no {xs : List UInt8} {k m : Nat} (hk : k < m) (h : nmay (nget (part80 xs k)) = false) : okParts xs m = false := by
  cases ho : okParts xs m with
  | false => rfl
  | true => have := List.all_eq_true.1 ho k (List.mem_range.2 hk); rw [h] at this; cases this
theorem part80_allB {l : List Nd} {i : Nat} {n : Nd} (h : l[i]? = some n) : part80 (allB l) i = nbytes n := by
  have hi := (List.getElem?_eq_some_iff.1 h).1
  have e1 : allB l = allB (l.take i) ++ (nbytes n ++ allB (l.drop (i + 1))) := by
    have e : l = l.take i ++ (n :: l.drop (i + 1)) := by
      have := (List.getElem?_eq_some_iff.1 h).2
      rw [← this, List.getElem_cons_drop, List.take_append_drop]
    conv => lhs; rw [e]
    simp [allB, List.flatMap_append]
  have hlen : (allB (l.take i)).length = 80 * i := by rw [allB_length, List.length_take]; omega
  rw [part80, e1, List.drop_append_of_le_length (by omega), List.drop_of_length_le (by omega), List.nil_append, List.take_append_of_le_length (by rw [nbytes_length]; exact Nat.le_refl _), List.take_of_length_le (by rw [nbytes_length]; exact Nat.le_refl _)]
theorem rall_allB {l : List Nd} (h : allOk l = true) : rallE (allB l) = 0 ∧ rallN (allB l) = l := by
  simp only [allOk, Bool.and_eq_true, decide_eq_true_eq] at h
  have hlen := allB_length l
  have hdiv : (allB l).length / 80 = l.length := by omega
  have hpart : ∀ i, i < l.length → nget (part80 (allB l) i) = l.getD i Nd.zero ∧ nmay (l.getD i Nd.zero) = true := fun i hi => by
    have hg : l[i]? = some (l.getD i Nd.zero) := by simp [List.getD, hi]
    have hm := List.all_eq_true.1 h.2 _ (List.mem_of_getElem? hg)
    rw [part80_allB hg, nget_nbytes hm]; exact ⟨rfl, hm⟩
  have h0 : rallE (allB l) = 0 := by
    rw [rallE, if_neg (by omega), hdiv, if_pos]
    exact List.all_eq_true.2 fun i hi => by have := hpart i (List.mem_range.1 hi); rw [this.1]; exact this.2
  refine ⟨h0, ?_⟩
  rw [rallN, if_pos h0, hdiv]
  apply List.ext_getElem?
  intro i
  rcases Nat.lt_or_ge i l.length with hi | hi
  · simp [readAllL, hi, (hpart i hi).1, List.getD]
  · rw [List.getElem?_eq_none (by rw [readAll_length]; exact hi), List.getElem?_eq_none hi]
theorem allB_parts {xs : List UInt8} : ∀ k, k ≤ xs.length / 80 → allB (readAllL xs k) = xs.take (80 * k)
  | 0, _ => by simp [readAllL, allB]
  | k + 1, h => by
    rw [readAll_succ, allB, List.flatMap_append, List.flatMap_singleton, nbytes_nget (part80_length (by omega))]
    have := allB_parts (xs := xs) k (by omega)
    rw [allB] at this
    rw [this, part80, show 80 * (k + 1) = 80 * k + 80 by omega, List.take_add]
theorem allB_rall {xs : List UInt8} (h : rallE xs = 0) : allB (rallN xs) = xs ∧ allOk (rallN xs) = true := by
  have h' := h
  rw [rallE] at h'
  split at h'
  · cases h'
  · rename_i hc
    split at h'
    · rename_i ho
      rw [rallN, if_pos h]
      refine ⟨?_, ?_⟩
      · rw [allB_parts _ (Nat.le_refl _), List.take_of_length_le (by omega)]
      · rw [allOk, Bool.and_eq_true, decide_eq_true_eq, readAll_length]
        refine ⟨by omega, List.all_eq_true.2 fun n hn => ?_⟩
        rw [readAllL, List.mem_map] at hn
        obtain ⟨i, hi, rfl⟩ := hn
        exact List.all_eq_true.1 ho i hi
    · cases h'

theorem slotB_be {n : Nd} {b : Nat} (h : (n.sl b).len.toNat < 256) (h2 : (n.nx b).toNat < 65536) : be (n.sl b).len.toNat 1 ++ be (n.sl b).hop.toNat 2 ++ be (n.nx b).toNat 2 = slotB n b := by
  simp [be, slotB]
theorem de_two12 {xs : List UInt8} {lo hi : Nat} (e : hi = lo + 2) (h : hi ≤ xs.length) : de ((xs.drop lo).take (hi - lo)) = (xs.getD lo 0).toNat * 256 + (xs.getD (lo + 1) 0).toNat := by
  subst e
  have h0 : (xs.drop lo)[0]? = some (xs.getD lo 0) := by simp [List.getD, show lo < xs.length by omega]
  have h1 : (xs.drop lo)[1]? = some (xs.getD (lo + 1) 0) := by simp [List.getD, show lo + 1 < xs.length by omega]
  have e2 : (xs.drop lo).take (lo + 2 - lo) = [xs.getD lo 0, xs.getD (lo + 1) 0] := by
    rw [show lo + 2 - lo = 2 by omega, List.take_add_one, List.take_add_one, h0, h1]; simp
  rw [e2]; simp [de]
theorem sub_get {xs : List UInt8} {lo hi j : Nat} (h1 : hi ≤ xs.length) (h2 : lo + j < hi) : ((xs.drop lo).take (hi - lo))[j]? = some (xs.getD (lo + j) 0) := by
  rw [List.getElem?_take_of_lt (by omega), List.getElem?_drop]; simp [List.getD, show lo + j < xs.length by omega]
theorem sub_len {xs : List UInt8} {lo hi : Nat} (h1 : hi ≤ xs.length) : ((xs.drop lo).take (hi - lo)).length = hi - lo := by simp; omega
theorem part80_eq (xs : List UInt8) (i : Nat) : (xs.drop (i * 80)).take ((i + 1) * 80 - i * 80) = part80 xs i := by
  rw [part80, show (i + 1) * 80 - i * 80 = 80 by omega, Nat.mul_comm]
theorem part80_eq2 (xs : List UInt8) (i : Nat) : (xs.drop (80 * i)).take (80 * i + 80 - 80 * i) = part80 xs i := by
  rw [part80, show 80 * i + 80 - 80 * i = 80 by omega]
theorem ref_round (xs : List UInt8) {k : Nat} (hk : k < 16) {x : UInt8} {y : Nat} (hx : x = xs.getD (5 * k) 0) (hy : (y : Int) = nextR xs k) (h : UInt16) (hh : h = hop16 (xs.getD (5 * k + 1) 0) (xs.getD (5 * k + 2) 0)) (h0 : UInt16) (l0 : Int)
    (hl : l0 = (((ngetP xs k).setSl k ⟨(x.toNat : Int), h0⟩).sl k).len) : ((((ngetP xs k).setSl k ⟨(x.toNat : Int), h0⟩).setSl k ⟨l0, h⟩).setNx k (y : Int)) = ngetP xs (k + 1) := by
  rw [← ngetP_succ xs hk, hy]
  congr 1
  rw [hl, Nd.sl_set hk, if_pos rfl]
  simp only [Nd.setSl, List.set_set]
  rw [slotG, hx, hh]
def allBV (l : List Nd) : List UInt8 := if allOk l = true then allB l else []
def allE (l : List Nd) : Int := if allOk l = true then 0 else 1
theorem allOk_no {l : List Nd} {i : Nat} {n : Nd} (h : l[i]? = some n) (hn : ¬ nmay n = true) : allOk l = false := by
  cases ho : allOk l with
  | false => rfl
  | true =>
    simp only [allOk, Bool.and_eq_true] at ho
    exact absurd (List.all_eq_true.1 ho.2 n (List.mem_of_getElem? h)) hn
theorem rall_bad {xs : List UInt8} (h : xs.length % 80 ≠ 0 ∨ 40960 < xs.length) : rallE xs = 3 ∧ rallN xs = [] := by
  have h1 : rallE xs = 3 := by rw [rallE, if_pos h]
  exact ⟨h1, by rw [rallN, if_neg (by rw [h1]; decide)]⟩
theorem rall_no {xs : List UInt8} (h : ¬ (xs.length % 80 ≠ 0 ∨ 40960 < xs.length)) (h2 : okParts xs (xs.length / 80) = false) : rallE xs = 2 ∧ rallN xs = [] := by
  have h1 : rallE xs = 2 := by rw [rallE, if_neg h, h2]; rfl
  exact ⟨h1, by rw [rallN, if_neg (by rw [h1]; decide)]⟩
theorem rall_ok {xs : List UInt8} (h : ¬ (xs.length % 80 ≠ 0 ∨ 40960 < xs.length)) (h2 : okParts xs (xs.length / 80) = true) : rallE xs = 0 ∧ rallN xs = readAllL xs (xs.length / 80) := by
  have h1 : rallE xs = 0 := by rw [rallE, if_neg h, h2]; rfl
  exact ⟨h1, by rw [rallN, if_pos h1]⟩
theorem readE_80 {xs : List UInt8} (h : xs.length = 80) : readE xs = 0 ∧ readN xs = nget xs ∧ nmay (nget xs) = true ∨ readE xs = 2 ∧ readN xs = Nd.zero ∧ nmay (nget xs) = false := by
  cases hm : nmay (nget xs) with
  | true => exact .inl ⟨by rw [readE, if_pos h, if_pos hm], by rw [readN, if_pos ⟨h, hm⟩], rfl⟩
  | false => exact .inr ⟨by rw [readE, if_pos h, hm]; rfl, by rw [readN, if_neg (by rw [hm]; simp)], rfl⟩
theorem read_long {xs : List UInt8} (h : xs.length ≠ 80) : readN xs = Nd.zero ∧ readE xs = 3 := ⟨by rw [readN, if_neg (fun h2 => h h2.1)], by rw [readE, if_neg h]⟩
theorem npre_step (n : Nd) (i : Nat) : npre n i ++ [b8 (n.sl i).len.toNat, b8 ((n.sl i).hop.toNat / 2 ^ 8), b8 (n.sl i).hop.toNat, b8 ((n.nx i).toNat / 2 ^ 8), b8 (n.nx i).toNat] = npre n (i + 1) := rfl
theorem sub_at5 {xs : List UInt8} (hl : xs.length = 80) {k : Nat} (hk : k < 16) (j : Nat) (hj : j < 5) : ((xs.drop (k * 5)).take ((k + 1) * 5 - k * 5))[j]? = some (xs.getD (5 * k + j) 0) := by
  rw [sub_get (by omega) (by omega), Nat.mul_comm]
/-! Lists of nodes of which some may not be. -/
def badV (l : List Nd) : Int := if l.all nmay = true then 0 else 1
def catB (l : List Nd) : List UInt8 := l.flatMap putB
theorem catB_len (l : List Nd) : (catB l).length ≤ 80 * l.length := by
  induction l with
  | nil => exact Nat.le_refl _
  | cons n l ih =>
    rw [catB, List.flatMap_cons, List.length_append]
    have : (putB n).length ≤ 80 := by unfold putB; split
                                      · rw [nbytes_length]; exact Nat.le_refl _
                                      · exact Nat.zero_le _
    simp only [catB] at ih
    rw [List.length_cons]; omega
theorem badV_snoc {l : List Nd} {i : Nat} {n : Nd} (h : l[i]? = some n) : badV (l.take (i + 1)) = max (badV (l.take i)) (putE12 n) := by
  rw [List.take_add_one, h, badV, badV, putE12]
  simp only [Option.toList_some, List.all_append, List.all_cons, List.all_nil, Bool.and_true]
  cases (l.take i).all nmay <;> cases nmay n <;> rfl
theorem catB_snoc {l : List Nd} {i : Nat} {n : Nd} (h : l[i]? = some n) : catB (l.take (i + 1)) = catB (l.take i) ++ putB n := by
  rw [List.take_add_one, h]; simp [catB]
theorem badV_rng (l : List Nd) : badV l = 0 ∨ badV l = 1 := by unfold badV; split <;> simp
theorem all_told {l : List Nd} (hl : l.length ≤ 512) : (badV l = 0 ∧ allE l = 0 ∧ allBV l = catB l) ∨ (badV l = 1 ∧ allE l = 1 ∧ allBV l = []) := by
  cases h : l.all nmay with
  | true =>
    have ho : allOk l = true := by rw [allOk, h, decide_eq_true hl]; rfl
    refine .inl ⟨by rw [badV, if_pos h], by rw [allE, if_pos ho], ?_⟩
    rw [allBV, if_pos ho, allB, catB]
    clear ho hl
    induction l with
    | nil => rfl
    | cons n l ih =>
      simp only [List.all_cons, Bool.and_eq_true] at h
      rw [List.flatMap_cons, List.flatMap_cons, ih h.2, putB, if_pos h.1]
  | false =>
    have ho : allOk l = false := by rw [allOk, h, Bool.and_false]
    exact .inr ⟨by rw [badV, h]; rfl, by rw [allE, ho]; rfl, by rw [allBV, ho]; rfl⟩
theorem put_ok {n : Nd} (h : putE12 n = 0) : nmay n = true ∧ putB n = nbytes n := by
  unfold putE12 at h
  split at h
  · rename_i hm; exact ⟨hm, by rw [putB, if_pos hm]⟩
  · cases h
theorem putE_may (n : Nd) : (putE12 n = 0) ↔ nmay n = true := by unfold putE12; split <;> simp_all
theorem slotF_zero {bits : Int} {w : Wy} {b : Nat} : ∀ {R : List Rt} {s : Slt}, (∀ r ∈ R, 0 ≤ r.p.len) → (s.len = 0 → s.hop = 0) → ((R.foldl (slotUp bits w b) s).len = 0 → (R.foldl (slotUp bits w b) s).hop = 0)
  | [], _, _, h => h
  | r :: R, s, hm, h => slotF_zero (R := R) (fun q hq => hm q (by simp [hq])) (by
    have := hm r (by simp)
    unfold slotUp; split
    · intro h2; simp only at h2; omega
    · exact h)
theorem allOk_trie {t : List Rt} {bits : Int} (ht : tright t = true) (hb : bits = 32 ∨ bits = 128) (hl : (waysF bits t).length ≤ 512) : allOk (nodes bits (waysF bits t) t) = true := by
  have hm : ∀ r ∈ t, pmay r.p = true := fun r hr => tr_may ht hr
  have hs : (stepsV bits (nodes bits (waysF bits t) t)).isSome = true := by rw [steps_eq hb (ways_bits hb hm) hm hl]; rfl
  obtain ⟨hr, -, -, -⟩ := inR_of hs
  have hlen : (nodes bits (waysF bits t) t).length ≤ 512 := by rw [nodes_length]; exact hl
  rw [allOk, decide_eq_true hlen, Bool.true_and]
  refine List.all_eq_true.2 fun n hn => nmay_iff.2 fun b hb16 => ?_
  obtain ⟨i, hi, rfl⟩ := List.getElem_of_mem hn
  have hg : (nodes bits (waysF bits t) t)[i]? = some (nodes bits (waysF bits t) t)[i] := by simp [hi]
  have h1 := len_of hs hg hb16
  have h2 := hr i _ hg b hb16
  refine ⟨h1.1, h1.2, ?_, h2.1, by omega⟩
  obtain ⟨v, _, hv⟩ : ∃ v, v ∈ waysF bits t ∧ nodeF bits (waysF bits t) t v = (nodes bits (waysF bits t) t)[i] := List.mem_map.1 (List.getElem_mem hi)
  have e : ((nodes bits (waysF bits t) t)[i]).sl b = slotF bits t v b := by rw [← hv, nodeF, Nd.sl_mk' hb16]
  rw [e]
  exact slotF_zero (fun r hr2 => by have := (pmay_iff r.p).1 (hm r hr2); omega) (fun _ => rfl)
end Go.Kb

/- Results of none; a cell that lay there ahead; variables of one cell. -/
namespace Go.Eng
open Go.RowKit
theorem res_none {P : Program} {fn : Func} {N : Fra} {env : Env} {w0 : World} {L : List Ent} (hf : fn.results = #[]) : ∀ a w, Rep N env a → Mem w0 L w → (results fn a.tmps).run P w = .ok (.tuple #[]) w := fun a w _ _ => by
  simp [results, hf]
section
variable {P : Program} {w0 : World} {env : Env}
theorem ry_old {N : Fra} {L : List Ent} {d : Option Tmp} {ty : TypeId} {ps : String} {af : Array Edge} {gd : Option (Nat × Bool)} {t : TypeId} {x : Operand} {p : Addr} {v : Value} [ht : OneT P t] (hx : ev env x = some (.pointer (some p))) (hc : w0.cell? p = some v) : Ry P N w0 env L ⟨d, .load t x, ty, ps, af, gd⟩ v :=
  ry_load_one ht hx fun w hw => (hw.below.cell (by
    unfold World.cell? at hc
    cases ho : w0.heap[p.block]? with
    | none => simp [ho] at hc
    | some o => exact (Array.getElem?_eq_some_iff.1 ho).1)).trans hc
end
/-! Variables of one cell. -/
section
variable {P : Program} {N : Fra} {w0 : World} {env : Env} {L : List Ent} {l : List Oper} {Q : Exit → Act → World → Prop} {rest : List Oper} {d : Option Tmp} {ty : TypeId} {ps : String} {af : Array Edge} {K : Value → List Ent → Prop}
instance CellAt.one {v : Value} : CellAt #[v] 0 v := ⟨rfl⟩
theorem sq_box1 {t : TypeId} {x : Operand} {v : Value} (hc : v.cells = #[v]) (hx : ev env x = some v) (hk : ∀ b, Sq P N w0 l Q rest (putE env d (.pointer (some ⟨b, 0, none⟩))) (blk b #[v] t :: L)) (hd : dstOk N d = true := by rfl) :
    Sq P N w0 l Q (⟨d, .box t x, ty, ps, af, none⟩ :: rest) env L := sq_box hx (by rw [hc]; exact hk) hd
theorem sq_alloc1 {t : TypeId} {z : Value} [hz : ZeroT P t z] (hc : z.cells = #[z]) (hk : ∀ b, Sq P N w0 l Q rest (putE env d (.pointer (some ⟨b, 0, none⟩))) (blk b #[z] t :: L)) (hd : dstOk N d = true := by rfl) :
    Sq P N w0 l Q (⟨d, .alloc t, ty, ps, af, none⟩ :: rest) env L := sq_alloc (z := z) (by rw [hc]; exact hk) hd
theorem sq_store1 {t : TypeId} {x y : Operand} {i b : Nat} {u : Value} {T : TypeId} {v : Value} (hv : v.oneCell' = true) (hx : ev env x = some (.pointer (some ⟨b, 0, none⟩))) (hy : ev env y = some v) [ht : OneT P t] [hh : Has L b #[u] T i] {L' : List Ent} [hu : Upd L i (blk b #[v] T) L'] (hk : Sq P N w0 l Q rest env L') :
    Sq P N w0 l Q (⟨none, .store t x y, ty, ps, af, none⟩ :: rest) env L := sq_store (cs' := #[v]) hx hy (by show 0 < 1; decide) hv rfl hk
theorem st_box1 {t : TypeId} {x : Operand} {v : Value} (hc : v.cells = #[v]) (hx : ev env x = some v) (hk : ∀ b, K ((.pointer (some ⟨b, 0, none⟩))) ((blk b #[v] t :: L))) :
    Stp P N w0 env L ⟨d, .box t x, ty, ps, af, none⟩ K := st_box hx (by rw [hc]; exact hk)
theorem st_alloc1 {t : TypeId} {z : Value} [hz : ZeroT P t z] (hc : z.cells = #[z]) (hk : ∀ b, K ((.pointer (some ⟨b, 0, none⟩))) ((blk b #[z] t :: L))) :
    Stp P N w0 env L ⟨d, .alloc t, ty, ps, af, none⟩ K := st_alloc (z := z) (by rw [hc]; exact hk)
theorem st_store1 {t : TypeId} {x y : Operand} {i b : Nat} {u : Value} {T : TypeId} {v : Value} (hv : v.oneCell' = true) (hx : ev env x = some (.pointer (some ⟨b, 0, none⟩))) (hy : ev env y = some v) [ht : OneT P t] [hh : Has L b #[u] T i] {L' : List Ent} [hu : Upd L i (blk b #[v] T) L'] (hk : K undef L') :
    Stp P N w0 env L ⟨none, .store t x y, ty, ps, af, none⟩ K := st_store (cs' := #[v]) hx hy (by show 0 < 1; decide) hv rfl hk
end

theorem sq_stU {P : Program} {N : Fra} {w0 : World} {env : Env} {L : List Ent} {l : List Oper} {Q : Exit → Act → World → Prop} {rest : List Oper} {ty : TypeId} {ps : String} {af : Array Edge} {t : TypeId} {x y : Operand} {i k p : Nat} {s : Sv} {xs : List UInt8} {a v : UInt8} [ht : OneT P t] (hx : ev env x = some (.pointer (some ⟨s.b, p, none⟩))) (hy : ev env y = some (.int .u8 v.toNat)) [q : Owns L s benc 1 xs i] (ha : xs[k]? = some a) (hp' : p = s.o + k * 1) {L' : List Ent} [hu : Upd L i (own benc 1 s (xs.set k v)) L'] (hk : Sq P N w0 l Q rest env L') :
    Sq P N w0 l Q (⟨none, .store t x y, ty, ps, af, none⟩ :: rest) env L :=
  sq_storeS (j := 0) (n := 1) (a' := v) ht.size hx hy (q := q) (by omega) ha (by simp [Value.cells, Value.oneCell']) rfl (by omega) (by rfl) hk
end Go.Eng

/- A range over a function: the iterator's contract, and the caller's law, over memory told by entries. -/
namespace Go.Eng
open Go.RowKit

/-! The loop's record, and the block for its rounds' deferred calls. -/
def recE (D l : Nat) (r : Loop) : Ent := ⟨fun k => k = D ∨ k = l, fun h => h D = some (.deferred (some [])) ∧ h l = some (.loop r), fun h h' e s => by
  rw [e D (.inl rfl), e l (.inr rfl)]; exact s⟩
def dfr (D : Nat) : Ent := ⟨fun k => k = D, fun h => h D = some (.deferred (some [])), fun _ _ e s => by rw [e D rfl]; exact s⟩

theorem Mem.putObj {w0 : World} {L : List Ent} {w : World} {e e' : Ent} {l : Nat} {o : Obj} (h : Mem w0 (e :: L) w) (hfp : ∀ k, e'.fp k → e.fp k) (hl : e.fp l)
    (hsat : e'.sat fun k => (w.putObj l o).heap[k]?) : Mem w0 (e' :: L) (w.putObj l o) :=
  h.change (i := 0) rfl hfp (fun k hk => World.putObj_heap_other (fun hkl => hk (hkl ▸ hl))) World.putObj_size ⟨rfl, rfl, rfl⟩ hsat
theorem recE.get {w0 : World} {L : List Ent} {w : World} {D l : Nat} {r : Loop} (h : Mem w0 (recE D l r :: L) w) : w.heap[D]? = some (.deferred (some [])) ∧ w.heap[l]? = some (.loop r) := h.sat (recE D l r) (by simp)
theorem recE.ne {w0 : World} {L : List Ent} {w : World} {D l : Nat} {r : Loop} (h : Mem w0 (recE D l r :: L) w) : D ≠ l := fun e => by
  have := recE.get h; rw [e, this.2] at this; cases this.1
theorem Mem.rec' {w0 : World} {L : List Ent} {w : World} {D l : Nat} {r : Loop} (r' : Loop) (h : Mem w0 (recE D l r :: L) w) : Mem w0 (recE D l r' :: L) (w.putObj l (.loop r')) := by
  have h1 := recE.get h
  refine h.putObj (fun k hk => hk) (.inr rfl) ⟨(World.putObj_heap_other (recE.ne h)).trans h1.1, World.putObj_heap_same (Array.getElem?_eq_some_iff.1 h1.2).1⟩
theorem Mem.recEnd {w0 : World} {L : List Ent} {w : World} {D l : Nat} {r : Loop} (o : Obj) (h : Mem w0 (recE D l r :: L) w) : Mem w0 (dfr D :: L) (w.putObj l o) := by
  have h1 := recE.get h
  refine h.putObj (fun k hk => .inl hk) (.inr rfl) ((World.putObj_heap_other (recE.ne h)).trans h1.1)
theorem Mem.recNew {w0 : World} {L : List Ent} {w : World} (r : Loop) (h : Mem w0 L w) : Mem w0 (recE w.heap.size (w.heap.size + 1) r :: L) ((w.alloc (.deferred (some []))).alloc (.loop r)) := by
  refine h.call (E := [recE w.heap.size (w.heap.size + 1) r]) ⟨((Below.refl _ w).alloc (Nat.le_refl _) _).alloc (by simp) _, fun e he => ?_, fun e he k hk => ?_, by simp⟩
  · obtain rfl : e = recE w.heap.size (w.heap.size + 1) r := by simpa using he
    refine ⟨(Below.heap_alloc _ _ _ (by simp)).trans (World.alloc_heap_new w _), ?_⟩
    have := World.alloc_heap_new (w.alloc (.deferred (some []))) (.loop r); rwa [World.size_alloc] at this
  · obtain rfl : e = recE w.heap.size (w.heap.size + 1) r := by simpa using he
    rw [World.size_alloc, World.size_alloc]
    rcases hk with rfl | rfl <;> omega

/-! What an iterator promises, whatever the loop's body. -/
def Iter (P : Program) (gf : FuncId) (lb : Array Value) (encs : Nat → Array Value) (n : Nat) (Need : World → Prop) : Prop :=
  ∀ (l : Nat) (J Jx : Nat → World → Prop) (W : World), (∀ k A B, J k A → Below A.heap.size A B → J k B) → (∀ k A B, Jx k A → Below A.heap.size A B → Jx k B) → (∀ k A, J k A → Need A) →
    (∀ k A, k < n → J k A → YieldAt (fen none) 0 P l (encs k) A fun e B => (e = .returned (.bool true) ∧ J (k + 1) B) ∨ (e = .returned (.bool false) ∧ Jx (k + 1) B)) → J 0 W →
    Calls P gf (#[.func (.yield l) #[] #[]] ++ lb) W fun e B => (∃ v, e = .returned v) ∧ (J n B ∨ ∃ k, Jx k B)

/-! The caller. -/
section
variable {P : Program} {N : Fra} {w0 : World} {env : Env} {L : List Ent} {Q : Exit → Act → World → Prop}
def roundQ {X Y : Type} (w0 : World) (r : Ent) (LI : X → List Ent) (inv : X → Prop) (LJ : Y → List Ent) (jn : Y → Prop) : Exit → Act → World → Prop
  | .normal, _, w => ∃ x, inv x ∧ Mem w0 (r :: LI x) w
  | .ret, _, w => ∃ y, jn y ∧ Mem w0 (r :: LJ y) w
  | _, _, _ => False
instance Tame.round {X Y : Type} {r : Ent} {LI : X → List Ent} {inv : X → Prop} {LJ : Y → List Ent} {jn : Y → Prop} : Tame (roundQ w0 r LI inv LJ jn) := ⟨fun _ _ h => h⟩
def noWay : Exit → Act → World → Prop := fun _ _ _ => False
instance Tame.noWay : Tame noWay := ⟨fun _ _ h => h⟩

def envP (ps : List Tmp) (vs : List Value) (env : Env) : Env := (ps.zip vs).foldl (fun e p => (p.1, p.2) :: e) env
theorem rep_params {ro : Option Nat} {ds : List Deferred} {n : Nat} : ∀ (l : List (Tmp × Value)) (t : Array Value) (env : Env), (∀ d v, look env d = some v → t[d]? = some v) → t.size = n → (∀ p ∈ l, p.1 < n) →
    (∀ d v, look (l.foldl (fun e p => (p.1, p.2) :: e) env) d = some v → (l.foldl (fun t p => t.setIfInBounds p.1 p.2) t)[d]? = some v) ∧ (l.foldl (fun t p => t.setIfInBounds p.1 p.2) t).size = n
  | [], _, _, h, hs, _ => ⟨h, hs⟩
  | p :: r, t, env, h, hs, hp => by
    refine rep_params (ro := ro) (ds := ds) r _ _ (fun d v hv => ?_) (by simp [hs]) (fun q hq => hp q (by simp [hq]))
    have hlt : p.1 < n := hp p (by simp)
    simp only [look] at hv
    rw [Array.getElem?_setIfInBounds]
    by_cases he : p.1 = d
    · subst he; simp at hv; simp [hv, hs, hlt]
    · have : Nat.beq p.1 d = false := beq_no he
      rw [this] at hv
      rw [if_neg he]; exact h d v hv

theorem cw_rangeFunc {n : Nat} {ds : List Nat} {g : Operand} {ps : List Tmp} {assign body : Code} {gf : FuncId} {lb : Array Value} [hf : IsFn P gf] {vals : Nat → List Value} {m : Nat} {Need : World → Prop}
    (hg : ev env g = some (.func (.func gf) #[] lb)) (hit : Iter P gf lb (fun k => (vals k).toArray) m Need) (hps : ∀ k, (vals k).length = ps.length) (hpn : ∀ p ∈ ps, p < n) {envI : Env} (hs : Sub envI env)
    {X Y : Type} (LI : Nat → X → List Ent) (inv : Nat → X → Prop) (x0 : X) (h0 : inv 0 x0) (hL : ∀ w, Mem w0 L w → Mem w0 (LI 0 x0) w) (hneed : ∀ k x w, inv k x → Mem w0 (LI k x) w → Need w)
    (LJ : Y → List Ent) (jn : Y → Prop)
    (hround : ∀ l k x r0, k < m → inv k x → Cw P ⟨n, [], some l⟩ w0 (Exit.then (fun a w => ∃ E LE, Rep ⟨n, [], some l⟩ E a ∧ Mem w0 (r0 :: LE) w ∧ ∀ r1, Cw P ⟨n, [], some l⟩ w0 (roundQ w0 r1 (LI (k + 1)) (inv (k + 1)) LJ jn) body E (r1 :: LE)) noWay) assign (envP ps (vals k) envI) (r0 :: LI k x))
    (hdone : ∀ D x, inv m x → Ex ⟨n, D :: ds, none⟩ w0 Q .normal envI (dfr D :: LI m x))
    (hret : ∀ D y, jn y → Ex ⟨n, D :: ds, none⟩ w0 Q .ret envI (dfr D :: LJ y)) :
    Cw P ⟨n, ds, none⟩ w0 Q (.rangeFunc g ps.toArray assign body) env L := fun a w ha hw => by
  refine wpIn_rangeFunc (F := fen none) (n := 0) fun fn _ => ?_
  obtain ⟨rc, hrec⟩ : ∃ rc : LoopState → Option Code → Loop, rc = fun st pe => { state := st, pending := pe, fn, tmps := a.tmps, params := ps.toArray, assign, body, defers := w.heap.size } := ⟨_, rfl⟩
  obtain ⟨W1, hW1⟩ : ∃ W1, (w.alloc (.deferred (some []))).alloc (.loop (rc .ready none)) = W1 := ⟨_, rfl⟩
  have hM1 : Mem w0 (recE w.heap.size (w.heap.size + 1) (rc .ready none) :: LI 0 x0) W1 := hW1 ▸ (hL _ hw).recNew _
  refine ⟨w.heap.size + 1, [mark w.heap.size], W1, { target := .fn (.func gf) lb, args := #[.func (.yield (w.heap.size + 1)) #[] #[]] }, W1, gf,
    #[.func (.yield (w.heap.size + 1)) #[] #[]] ++ lb, W1, ?_, ?_, ?_, ?_, fun h => (by cases h), ?_⟩
  · rw [← hW1, hrec]; exact run_enterLoop_outer _ _ _ _ _
  · simp only [resolve, ha.ev hg]
    simp [go_sem]
  · intro _ _; trivial
  · obtain ⟨fu, h1, h2, h3⟩ := hf.fn
    have h2' : ¬ fu.body = none := fun e => by simp [e] at h2
    have h3' : ¬ fu.name = "runtime.NumGoroutine" := by simpa using h3
    simp [invoke, callFunc, h1, h2', h3', Result.andThen]
  · refine callsIn_fen ((hit (w.heap.size + 1) (fun k W => ∃ x, inv k x ∧ Mem w0 (recE w.heap.size (w.heap.size + 1) (rc .ready none) :: LI k x) W)
      (fun _ W => ∃ y, jn y ∧ Mem w0 (recE w.heap.size (w.heap.size + 1) (rc .done (some .ret)) :: LJ y) W) _
      (fun k A B ⟨x, h1, h2⟩ hb => ⟨x, h1, h2.step hb⟩) (fun k A B ⟨y, h1, h2⟩ hb => ⟨y, h1, h2.step hb⟩)
      (fun k A ⟨x, h1, h2⟩ => hneed k x A h1 (h2.sub (List.sublist_cons_self _ _))) ?_ ⟨x0, h0, hM1⟩).mono ?_)
    · rintro k W hk ⟨x, hi, hm⟩
      have hl := (recE.get hm).2
      have hy := run_yield (P := P) (args := (vals k).toArray) hl (by rw [hrec]; simp [hps k])
      rw [hrec] at hy
      refine ⟨fn, _, assign, body, hy, roundIn_of_wpIn (F := fen none) trivial (wpIn_mono (hround (w.heap.size + 1) k x _ hk hi _ W ?_ hm) ?_)⟩
      · have hp := rep_params (ro := none) (ds := []) (ps.zip (vals k)) a.tmps envI (ha.sub hs).get ha.size (fun p hp => hpn _ (List.of_mem_zip hp).1)
        simp only [List.zip_toArray, List.foldl_toArray']
        exact ⟨by simpa using hp.2, by simpa [envP] using hp.1, rfl⟩
      · rintro e a1 W1 hq
        cases e with
        | normal =>
          obtain ⟨E, LE, hr1, hm1, hbody⟩ := hq
          have hl1 := (recE.get hm1).2
          refine ⟨_, run_beginRound hl1 (by rw [hrec]), wpIn_mono (hbody _ a1 _ hr1 (hm1.rec' _)) ?_⟩
          rintro e a2 W2 hq2
          cases e with
          | normal =>
            obtain ⟨x', hi', hm2⟩ := hq2
            have hl2 := (recE.get hm2).2
            have he := run_endRound (P := P) none hl2
            refine ⟨_, _, he, .inl ⟨rfl, x', hi', ?_⟩⟩
            have := hm2.rec' (rc .ready none)
            rw [hrec] at this ⊢
            exact this
          | ret =>
            obtain ⟨y, hj, hm2⟩ := hq2
            have hl2 := (recE.get hm2).2
            have he := run_endRound (P := P) (some .ret) hl2
            refine ⟨_, _, he, .inr ⟨rfl, y, hj, ?_⟩⟩
            have := hm2.rec' (rc .done (some .ret))
            rw [hrec] at this ⊢
            exact this
          | exit id => exact hq2.elim
          | goto t => exact hq2.elim
          | panic c => exact hq2.elim
          | outgrown => exact hq2.elim
        | exit id => exact hq.elim
        | goto t => exact hq.elim
        | ret => exact hq.elim
        | panic c => exact hq.elim
        | outgrown => exact hq.elim
    · rintro e W2 ⟨⟨v, rfl⟩, ⟨x, hi, hm⟩ | ⟨_, y, hj, hm⟩⟩
      · have hl := (recE.get hm).2
        have he := run_endLoop (P := P) hl (by rw [hrec]; simp)
        rw [hrec] at he
        refine ⟨none, _, he, hdone w.heap.size x hi _ _ ⟨ha.size, (ha.sub hs).get, ?_⟩ (hm.recEnd _)⟩
        simp [ha.defers]
      · have hl := (recE.get hm).2
        have he := run_endLoop (P := P) hl (by rw [hrec]; simp)
        rw [hrec] at he
        refine ⟨some .ret, _, he, wpIn_ret (hret w.heap.size y hj _ _ ⟨ha.size, (ha.sub hs).get, ?_⟩ (hm.recEnd _))⟩
        simp [ha.defers]

/-! The end of a function that holds a range over a function. -/
theorem ex_retM {n i D : Nat} {L' : List Ent} {fn : Func} {R : Ending → World → Prop} {e : Exit} (he : e = .ret ∨ e = .normal) {v : Value} [k1 : At L (dfr D) i] [k2 : DelI L i L'] (hr : ∀ a w, Rep ⟨n, [], none⟩ env a → Mem w0 L' w → (results fn a.tmps).run P w = .ok v w) (h : ∀ w, Mem w0 L' w → R (.returned v) w) : Ex ⟨n, [D], none⟩ w0 (endPost P fn R) e env L := fun a w ha hw => by
  have hm : Mem w0 (dfr D :: L') w := by have := hw.perm (perm_erase k1.h); rwa [k2.h] at this
  have hD : w.heap[D]? = some (.deferred (some [])) := hm.sat (dfr D) (by simp)
  have hm2 : Mem w0 L' (w.putObj D (.deferred none)) := (hm.putObj (e' := .emp) (fun _ hk => hk.elim) rfl trivial).sub (List.sublist_cons_self _ _)
  have key : LeavesInM (fen none) 0 P fn a.tmps R a.defers .returning w := by
    rw [ha.defers]
    exact ⟨by simp, .inl ⟨D, _, rfl, run_takeDeferred hD, v, hr { tmps := a.tmps, defers := [] } _ ⟨ha.size, ha.get, rfl⟩ hm2, h _ hm2⟩⟩
  rcases he with rfl | rfl
  · exact ⟨.inr rfl, key⟩
  · exact ⟨.inl rfl, key⟩
theorem ex_round {X Y : Type} {r : Ent} {LI : X → List Ent} {inv : X → Prop} {LJ : Y → List Ent} {jn : Y → Prop} {NN : Fra} (x : X) (hi : inv x) (hL : ∀ w, Mem w0 L w → Mem w0 (r :: LI x) w) : Ex NN w0 (roundQ w0 r LI inv LJ jn) .normal env L := fun _ w _ hw => ⟨x, hi, hL w hw⟩
theorem ex_roundRet {X Y : Type} {r : Ent} {LI : X → List Ent} {inv : X → Prop} {LJ : Y → List Ent} {jn : Y → Prop} {NN : Fra} (y : Y) (hj : jn y) (hL : ∀ w, Mem w0 L w → Mem w0 (r :: LJ y) w) : Ex NN w0 (roundQ w0 r LI inv LJ jn) .ret env L := fun _ w _ hw => ⟨y, hj, hL w hw⟩
theorem ex_assigned {NN : Fra} {X Y : Type} {LI : X → List Ent} {inv : X → Prop} {LJ : Y → List Ent} {jn : Y → Prop} {r0 : Ent} {body : Code} (LE : List Ent) (hL : ∀ w, Mem w0 L w → Mem w0 (r0 :: LE) w) (h : ∀ r1, Cw P NN w0 (roundQ w0 r1 LI inv LJ jn) body env (r1 :: LE)) :
    Ex NN w0 (Exit.then (fun a w => ∃ E LE, Rep NN E a ∧ Mem w0 (r0 :: LE) w ∧ ∀ r1, Cw P NN w0 (roundQ w0 r1 LI inv LJ jn) body E (r1 :: LE)) noWay) .normal env L := fun _ w ha hw => ⟨env, LE, ha, hL w hw, h⟩
end

/-! The iterator. -/
section
variable {P : Program} {n : Nat} {w0 : World} {env : Env} {L : List Ent} {Q : Exit → Act → World → Prop} {l : List Oper} {k : Nat} {rest : List Oper}
def Si (P : Program) (n : Nat) (w0 : World) (l : List Oper) (Q : Exit → Act → World → Prop) (k : Nat) (rest : List Oper) (env : Env) : Prop :=
  l.drop k = rest → ∀ a w, Rep ⟨n, [], none⟩ env a → Mem w0 [] w → wpOpsIn (fen none) 0 P l.toArray Q (List.range' k rest.length) a w
theorem drop_at {α : Type} {l rest : List α} {k : Nat} {o : α} (h : l.drop k = o :: rest) : l[k]? = some o ∧ l.drop (k + 1) = rest := by
  constructor
  · have := congrArg (·[0]?) h; simpa using this
  · have := congrArg (List.drop 1) h; simpa [List.drop_drop, Nat.add_comm] using this
theorem cw_yields {id : Nat} (h : Si P n w0 l Q 0 l env) : Cw P ⟨n, [], none⟩ w0 Q (.region id l.toArray false) env [] := fun a w ha hw =>
  wpIn_region (by have := h rfl a w ha hw; rw [List.range_eq_range']; simpa using this)
theorem si_nil (h : Ex ⟨n, [], none⟩ w0 Q .normal env []) : Si P n w0 l Q k [] env := fun _ a w ha hw => h a w ha hw
theorem si_r {o : Oper} {v : Value} (h : Ry P ⟨n, [], none⟩ w0 env [] o v) (hk : Si P n w0 l Q (k + 1) rest (putE env o.dst v)) (hg : o.guard = none := by rfl) (hd : dstOk ⟨n, [], none⟩ o.dst = true := by rfl) : Si P n w0 l Q k (o :: rest) env := fun hl a w ha hw => by
  obtain ⟨h1, h2⟩ := drop_at hl
  rw [List.length_cons, List.range'_succ]
  unfold wpOpsIn
  simp only [List.getElem?_toArray, h1]
  rw [if_pos (wanted_none hg)]
  refine ⟨fun _ _ => trivial, ?_⟩
  have := h a w ha hw
  rw [show (fen none).round = none from rfl, Oper.semAt_none, this]
  exact hk h2 _ _ (ha.put hd v) hw
theorem si_yield {d : Option Tmp} {ty : TypeId} {ps : String} {af : Array Edge} {t : Tmp} {xs : List Operand} {ts : Array TypeId} {vs : List Value} {lp : Nat} {J Jx : World → Prop}
    (ht : look env t = some (.func (.yield lp) #[] #[])) (hx : evl env xs = some vs) (hy : ∀ w, Mem w0 [] w → YieldAt (fen none) 0 P lp vs.toArray w fun e B => (e = .returned (.bool true) ∧ J B) ∨ (e = .returned (.bool false) ∧ Jx B))
    (h1 : ∀ W, J W → Si P n W l Q (k + 1) rest (putE env d (.bool true))) (h2 : ∀ W, Jx W → Si P n W l Q (k + 1) rest (putE env d (.bool false))) (hd : dstOk ⟨n, [], none⟩ d = true := by rfl) :
    Si P n w0 l Q k (⟨d, .call { callee := .value (.tmp t), args := xs.toArray, argTypes := ts }, ty, ps, af, none⟩ :: rest) env := fun hl a w ha hw => by
  obtain ⟨g1, g2⟩ := drop_at hl
  rw [List.length_cons, List.range'_succ]
  unfold wpOpsIn
  simp only [List.getElem?_toArray, g1]
  rw [if_pos (wanted_none rfl)]
  refine ⟨fun _ _ => trivial, ?_⟩
  obtain ⟨fn, tmps, assign, body, e1, e2⟩ := hy w hw
  have et : a.eval (.tmp t) = .func (.yield lp) #[] #[] := ha.ev (x := .tmp t) ht
  have ex : xs.map a.eval = vs := ha.evl hx
  have e3 : (execOp a.eval ⟨d, .call { callee := .value (.tmp t), args := xs.toArray, argTypes := ts }, ty, ps, af, none⟩).run P w = .ok (.round lp fn tmps assign body) w := by
    simp [execOp, resolve, et, Deferred.ofValue, invoke, callFunc, ex, e1, Result.andThen]
  rw [show (fen none).round = none from rfl, Oper.semAt_none, e3]
  refine ⟨fun h => (by cases h), e2.mono fun e W hW => ?_⟩
  rcases hW with ⟨rfl, hj⟩ | ⟨rfl, hj⟩
  · exact h1 W hj g2 _ W (ha.put hd _) (Mem.init W)
  · exact h2 W hj g2 _ W (ha.put hd _) (Mem.init W)

theorem cw_iter {X : Type} {c : Code} (envI : X → Env) (I : X → World → Prop) (m : X → Nat) (x0 : X) (hs : Sub (envI x0) env) (h0 : ∀ w, Mem w0 L w → I x0 w)
    (round : ∀ x W, I x W → Cw P ⟨n, [], none⟩ W (Exit.then (fun a w => ∃ x', m x' < m x ∧ Rep ⟨n, [], none⟩ (envI x') a ∧ I x' w) Q) c (envI x) []) : Cw P ⟨n, [], none⟩ w0 Q (.loop c) env L := by
  intro a0 w1 ha0 hw1 b k cs hro hb hr
  have key : ∀ n' x, m x = n' → ∀ a w, Rep ⟨n, [], none⟩ (envI x) a → I x w →
      ∃ e a' w', Q e a' w' ∧ ArrivesIn (Machine.fenced P (fen none)) P (lone (b.atR a (.code c :: .inLoop c :: k)) cs w) b k cs e a' w' := by
    intro n'
    induction n' using Nat.strongRecOn with
    | _ n' ih =>
      intro x hm a w ha hI
      obtain ⟨e, a₁, w₁, hq, harr⟩ := round x w hI a w ha (Mem.init w) b (.inLoop c :: k) cs hro hb hr
      cases e with
      | normal =>
        obtain ⟨x', hlt, ha', hI'⟩ := hq
        obtain ⟨e₂, a₂, w₂, hq₂, harr₂⟩ := ih (m x') (hm ▸ hlt) x' rfl a₁ w₁ ha' hI'
        exact ⟨e₂, a₂, w₂, hq₂, .of_steps (StepsIn.trans harr (.one (fenced_calm hb hr rfl) stepR_inLoop)) harr₂⟩
      | exit id => exact ⟨_, a₁, w₁, hq, .pass (x := .inLoop c) rfl (fun _ _ => .inl (by simp)) harr⟩
      | goto l => exact ⟨_, a₁, w₁, hq, .pass (x := .inLoop c) rfl (fun _ _ => .inl (by simp)) harr⟩
      | ret => exact ⟨_, a₁, w₁, hq, .pass (x := .inLoop c) rfl (fun _ _ => .inl (by simp)) harr⟩
      | panic ch => exact ⟨_, a₁, w₁, hq, .pass (x := .inLoop c) rfl (fun _ _ => .inl (by simp)) harr⟩
      | outgrown => exact ⟨_, a₁, w₁, hq, .pass (x := .inLoop c) rfl (fun _ _ => .inl (by simp)) harr⟩
  obtain ⟨e, a', w', hq, harr⟩ := key _ x0 rfl a0 w1 (ha0.sub hs) (h0 w1 hw1)
  exact ⟨e, a', w', hq, .of_steps (.one (fenced_calm hb hr rfl) stepR_loop) harr⟩
theorem ex_iter {X : Type} {envI : X → Env} {I : X → World → Prop} {m : X → Nat} {x : X} (x' : X) (hm : m x' < m x) (hs : Sub (envI x') env) (hI : ∀ w, Mem w0 [] w → I x' w) :
    Ex ⟨n, [], none⟩ w0 (Exit.then (fun a w => ∃ x', m x' < m x ∧ Rep ⟨n, [], none⟩ (envI x') a ∧ I x' w) Q) .normal env [] := fun _ w ha hw => ⟨x', hm, ha.sub hs, hI w hw⟩
end

end Go.Eng

/- A node's arrays as values; its slots written part by part; function values. -/
namespace Go.Kb
open Go.Eng
def nslots (n : Nd) : Array Value := (ncells n).extract 0 32
def nnexts (n : Nd) : Array Value := (ncells n).extract 32 48
theorem nslots_size (n : Nd) : (nslots n).size = 32 := by simp [nslots, ncells_size]
theorem nnexts_size (n : Nd) : (nnexts n).size = 16 := by simp [nnexts, ncells_size]
instance (n : Nd) : PartAt (ncells n) 0 32 (nslots n) := ⟨nslots_size n, fun j hj => by
  rw [nslots, Array.getElem?_extract]; simp [ncells_size]; omega⟩
instance (n : Nd) : PartAt (ncells n) 32 16 (nnexts n) := ⟨nnexts_size n, fun j hj => by
  rw [nnexts, Array.getElem?_extract]; simp [ncells_size]; omega⟩
theorem nslots_at (n : Nd) {b : Nat} (h : b < 16) : (nslots n).extract (b * 2) (b * 2 + 2) = slcells (n.sl b) := by
  have hp := ncells_sl n h
  have hs : (slcells (n.sl b)).size = 2 := hp.size
  refine Array.ext_getElem? fun j => ?_
  rw [nslots, Array.extract_extract, Array.getElem?_extract]
  by_cases hj : j < 2
  · rw [← hp.h j hj]; simp [ncells_size]; omega
  · rw [Array.getElem?_eq_none (xs := slcells (n.sl b)) (by omega)]
    simp [ncells_size]; omega
theorem nnexts_at (n : Nd) {b : Nat} (h : b < 16) : (nnexts n)[b]? = some (.int .i64 (n.nx b)) := by
  rw [← ncells_nx n h, nnexts, Array.getElem?_extract]; simp [ncells_size]; omega
theorem set_len (n : Nd) {b : Nat} (h : b < 16) (v : Int) : (ncells n).setIfInBounds (b * 2) (.int .i64 v) = ncells (n.setSl b ⟨v, (n.sl b).hop⟩) := by
  rw [← over_sl n h]
  refine Array.ext_getElem? fun j => ?_
  rw [cells_over (by rw [ncells_size]; show b * 2 + 2 ≤ 48; omega), Array.getElem?_setIfInBounds, ncells_size]
  show _ = if b * 2 ≤ j ∧ j < b * 2 + 2 then (#[Value.int .i64 v, .int .u16 (n.sl b).hop.toNat])[j - b * 2]? else _
  by_cases h1 : b * 2 = j
  · subst h1; rw [if_pos rfl, if_pos (by omega), if_pos (by omega), Nat.sub_self]; rfl
  · rw [if_neg h1]
    by_cases h2 : j = b * 2 + 1
    · subst h2; rw [if_pos (by omega), ncells_hop n h, show b * 2 + 1 - b * 2 = 1 by omega]; rfl
    · rw [if_neg (by omega)]
theorem set_hop (n : Nd) {b : Nat} (h : b < 16) (v : UInt16) : (ncells n).setIfInBounds (b * 2 + 1) (.int .u16 v.toNat) = ncells (n.setSl b ⟨(n.sl b).len, v⟩) := by
  rw [← over_sl n h]
  refine Array.ext_getElem? fun j => ?_
  rw [cells_over (by rw [ncells_size]; show b * 2 + 2 ≤ 48; omega), Array.getElem?_setIfInBounds, ncells_size]
  show _ = if b * 2 ≤ j ∧ j < b * 2 + 2 then (#[Value.int .i64 (n.sl b).len, .int .u16 v.toNat])[j - b * 2]? else _
  by_cases h1 : b * 2 + 1 = j
  · subst h1; rw [if_pos rfl, if_pos (by omega), if_pos (by omega), show b * 2 + 1 - b * 2 = 1 by omega]; rfl
  · rw [if_neg h1]
    by_cases h2 : j = b * 2
    · subst h2; rw [if_pos (by omega), ncells_len n h, Nat.sub_self]; rfl
    · rw [if_neg (by omega)]
theorem Nd.setSl_setSl' (n : Nd) (b : Nat) (s t : Slt) : (n.setSl b s).setSl b t = n.setSl b t := by simp [Nd.setSl]
end Go.Kb
namespace Go.Eng
open Go.Kb
section
variable {P : Program} {N : Fra} {w0 : World} {env : Env} {L : List Ent} {d : Option Tmp} {ty : TypeId} {ps : String} {af : Array Edge} {gd : Option (Nat × Bool)} {a : Nd}
theorem ry_ixSlot {t e : TypeId} {x ix : Operand} {k : IntKind} {j : Int} (hu : P.underlying t = some (.array 16 e)) [he : RowT P e 2] (hx : ev env x = some (.agg (nslots a))) (hj : ev env ix = some (.int k j)) (b : Nat) (ej : j = (b : Int)) (hb : b < 16) :
    Ry P N w0 env L ⟨d, .index t x ix, ty, ps, af, gd⟩ (.agg (slcells (a.sl b))) := fun ac w ha _ => by
  subst ej
  obtain ⟨⟨de, h1, h2⟩, h3⟩ := he
  have g : (b : Int) < ((16 : Nat) : Int) := by omega
  simp only [execOp, ha.ev hx, ha.ev hj, Instr.index, asIntOf, Sem.run_bind, run_underlying hu, Result.andThen, Sem.run_pure, Int.natCast_nonneg, true_and, g, if_true, Int.toNat_natCast, run_sizeOf' w h3, part, run_isAgg' w h1, h2, nslots_at a hb]
theorem ry_ixNext {t e : TypeId} {x ix : Operand} {k : IntKind} {j : Int} (hu : P.underlying t = some (.array 16 e)) [he : OneT P e] (hx : ev env x = some (.agg (nnexts a))) (hj : ev env ix = some (.int k j)) (b : Nat) (ej : j = (b : Int)) (hb : b < 16) :
    Ry P N w0 env L ⟨d, .index t x ix, ty, ps, af, gd⟩ (.int .i64 (a.nx b)) := fun ac w ha _ => by
  subst ej
  obtain ⟨⟨de, h1, h2⟩, h3⟩ := he
  have g : (b : Int) < ((16 : Nat) : Int) := by omega
  simp only [execOp, ha.ev hx, ha.ev hj, Instr.index, asIntOf, Sem.run_bind, run_underlying hu, Result.andThen, Sem.run_pure, Int.natCast_nonneg, true_and, g, if_true, Int.toNat_natCast, run_sizeOf' w h3, part, run_isAgg' w h1, h2, Nat.mul_one, nnexts_at a hb]
  rfl
theorem ry_makeFunc {fn : Fn} {c : List Operand} {vs : List Value} (hc : evl env c = some vs) : Ry P N w0 env L ⟨d, .makeFunc fn #[] c.toArray, ty, ps, af, gd⟩ (.func fn #[] vs.toArray) := fun a w ha _ => by
  simp only [execOp, Instr.makeFunc]
  rw [show c.toArray.map a.eval = vs.toArray by rw [List.map_toArray, ha.evl hc]]
  simp [Sem.run_pure, Result.andThen]
end
section
variable {P : Program} {N : Fra} {w0 : World} {env : Env} {L : List Ent} {l : List Oper} {Q : Exit → Act → World → Prop} {rest : List Oper} {ty : TypeId} {ps : String} {af : Array Edge} {a : Nd}
theorem sq_bstLen {t T : TypeId} {x y : Operand} {i k p : Nat} {v : Int} [ht : OneT P t] (hx : ev env x = some (.pointer (some ⟨k, p, none⟩))) (hy : ev env y = some (.int .i64 v)) [q : Has L k (ncells a) T i] (b : Nat) (hb : b < 16) (hp' : p = b * 2) {L' : List Ent} [hu : Upd L i (blk k (ncells (a.setSl b ⟨v, (a.sl b).hop⟩)) T) L'] (hk : Sq P N w0 l Q rest env L') :
    Sq P N w0 l Q (⟨none, .store t x y, ty, ps, af, none⟩ :: rest) env L := by
  subst hp'
  exact sq_store (cs' := ncells (a.setSl b ⟨v, (a.sl b).hop⟩)) hx hy (by rw [ncells_size]; omega) rfl (set_len a hb v) hk
theorem sq_bstHop {t T : TypeId} {x y : Operand} {i k p : Nat} {v : UInt16} [ht : OneT P t] (hx : ev env x = some (.pointer (some ⟨k, p, none⟩))) (hy : ev env y = some (.int .u16 v.toNat)) [q : Has L k (ncells a) T i] (b : Nat) (hb : b < 16) (hp' : p = b * 2 + 1) {L' : List Ent} [hu : Upd L i (blk k (ncells (a.setSl b ⟨(a.sl b).len, v⟩)) T) L'] (hk : Sq P N w0 l Q rest env L') :
    Sq P N w0 l Q (⟨none, .store t x y, ty, ps, af, none⟩ :: rest) env L := by
  subst hp'
  exact sq_store (cs' := ncells (a.setSl b ⟨(a.sl b).len, v⟩)) hx hy (by rw [ncells_size]; omega) rfl (set_hop a hb v) hk
end
end Go.Eng
namespace Go.Kb
theorem hop_zero {h : UInt16} (e : ((h.toNat : Nat) : Int) = 0) : h = 0 := UInt16.toNat.inj (by simpa using e)
end Go.Kb
namespace Go.Eng
end Go.Eng

/- May a node be: walked. -/
namespace Go.Proofs.Ytklhkejhndnhbaa
open Go.Eng Go.Kb
instance : ZeroT Try.prog 5 (.int .u8 0) := ⟨by kernel_rfl⟩
instance : ZeroT Try.prog 30 (.int .i64 0) := ⟨by kernel_rfl⟩
set_option maxRecDepth 20000 in
theorem ndmay_c (w : World) (n : Nd)  : Calls Try.prog 41 #[.agg (ncells n)] w fun e w' => e = .returned (.bool (nmay n)) ∧ Mem w [] w' := by
  refine calls_of (args := [_]) Try.func41 rfl Try.ntmps41 rfl ?_
  change Cw _ _ _ _ _ [(0, .agg (ncells n))] []
  refine cw_seq ?_
  refine cw_region ?_
  refine sq_boxA rfl fun b1 => ?_
  refine sq_r (ry_assign rfl) ?_
  refine sq_nil ?_
  refine ex_then ?_
  refine cw_seq ?_
  refine cw_seq ?_
  refine cw_region ?_
  refine sq_r (ry_field (o' := 0) rfl rfl) ?_
  refine sq_r (ry_part rfl) ?_
  refine sq_r (ry_move rfl) ?_
  refine sq_nil ?_
  refine ex_then ?_
  refine cw_block ?_
  refine cw_loop (X := Nat) (fun zz => [(9, .int .i64 (zz : Nat)), (1, .pointer (some ⟨b1, 0, none⟩)), (8, .agg (nslots n))]) (fun zz => [blk b1 (ncells n) 80]) (fun zz => zz ≤ 16 ∧ (∀ b, b < zz → 0 ≤ (n.sl b).len ∧ (n.sl b).len ≤ 129 ∧ ((n.sl b).len = 0 → (n.sl b).hop = 0))) (fun zz => 16 - zz) 0 ⟨by first | omega | (simp only []; omega), fun b hb => by first | omega | (simp only []; omega)⟩ (Sub.cons rfl (Sub.cons rfl (Sub.cons rfl (Sub.nil _)))) (fun w hw => Keep.mem hw) ?_
  rintro i ⟨hi1, hi2⟩
  refine cw_seq ?_
  refine cw_region ?_
  refine sq_r (ry_int rfl rfl rfl) ?_
  refine sq_nil ?_
  refine ex_then ?_
  refine cw_seq ?_
  refine cw_cond rfl (fun h0 => ?_) (fun h0 => ?_)
  · try simp only [bz0, bz1, bz2, bz3, bz4, bz5, bz6, bz7, bz8, bz9] at h0
    refine cw_skip ?_
    refine ex_then ?_
    refine cw_seq ?_
    refine cw_block ?_
    refine cw_seq ?_
    refine cw_region ?_
    refine sq_r (ry_ixSlot Try.underlying77 rfl rfl i rfl (by omega)) ?_
    refine sq_allocA fun b4 => ?_
    refine sq_storeW rfl rfl ?_
    refine sq_nil ?_
    refine ex_then ?_
    refine cw_seq ?_
    refine cw_region ?_
    refine sq_r (ry_field (o' := 0) rfl rfl) ?_
    refine sq_r (ry_cellc rfl) ?_
    refine sq_r (ry_int rfl rfl rfl) ?_
    refine sq_r (ry_move rfl) ?_
    refine sq_gf rfl rfl rfl (fun hg => (Ry.yl (ry_field (o' := 0) rfl rfl))) ?_
    refine sq_gf rfl rfl rfl (fun hg => (Ry.yl (ry_cellc (ev_c hg rfl)))) ?_
    refine sq_gf rfl rfl rfl (fun hg => (Ry.yl (ry_int (ev_c hg rfl) rfl rfl))) ?_
    refine sq_r (ry_or rfl rfl rfl) ?_
    refine sq_r (ry_move rfl) ?_
    refine sq_gf rfl rfl rfl (fun hg => (Ry.yl (ry_field (o' := 0) rfl rfl))) ?_
    refine sq_gf rfl rfl rfl (fun hg => (Ry.yl (ry_cellc (ev_c hg rfl)))) ?_
    refine sq_gf rfl rfl rfl (fun hg => (Ry.yl (ry_int (ev_c hg rfl) rfl rfl))) ?_
    refine sq_gf rfl rfl rfl (fun hg => (Ry.yl (ry_move (ev_c hg rfl)))) ?_
    refine sq_nt rfl rfl rfl (fun hg => (Ry.yl (ry_field (o' := 1) rfl rfl))) ?_
    refine sq_nt rfl rfl rfl (fun hg => (Ry.yl (ry_cellc (ev_c hg rfl)))) ?_
    refine sq_nt rfl rfl rfl (fun hg => (Ry.yl (ry_int (ev_c hg rfl) rfl rfl))) ?_
    refine sq_gf rfl rfl rfl (fun hg => (Ry.yl (ry_and (ev_c hg rfl) (ev_cc hg rfl) rfl))) ?_
    refine sq_r (ry_or rfl rfl rfl) ?_
    refine sq_nil ?_
    refine ex_then ?_
    refine cw_cond rfl (fun h1 => ?_) (fun h1 => ?_)
    · try simp only [bz0, bz1, bz2, bz3, bz4, bz5, bz6, bz7, bz8, bz9] at h1
      refine cw_seq ?_
      refine cw_region ?_
      refine sq_r (ry_assign rfl) ?_
      refine sq_nil ?_
      refine ex_then ?_
      refine cw_ret ?_
      refine ex_block_ret ?_
      refine ex_pass_ret ?_
      refine ex_pass_ret ?_
      refine ex_block_ret ?_
      refine ex_pass_ret ?_
      refine ex_ret (.inl rfl) (res_1 rfl (rv_tmp rfl)) (fun w1 hw => ?_)
      exact ⟨congrArg (fun b => Ending.returned (Value.bool b)) ((nmay_no (show i < 16 by omega) (by rintro ⟨g1, g2, g3, -⟩; rcases h1 with h | ⟨h2, h3⟩; omega; exact h3 (by rw [g3 h2]; rfl))).symm), Keep.mem hw⟩
    · try simp only [bz0, bz1, bz2, bz3, bz4, bz5, bz6, bz7, bz8, bz9] at h1
      refine cw_skip ?_
      refine ex_block ?_
      refine ex_then ?_
      refine cw_region ?_
      refine sq_r (ry_add rfl rfl (by omega)) ?_
      refine sq_r (ry_move rfl) ?_
      refine sq_nil ?_
      exact ex_again (x := (i)) (i + 1) ⟨by first | omega | (simp only []; omega), fun b hb => if e : b = i then (by subst e; exact ⟨by first | omega | (simp only []; omega), by first | omega | (simp only []; omega), fun h3 => hop_zero (by first | omega | (simp only []; omega))⟩) else hi2 b (by first | omega | (simp only []; omega))⟩ (by first | omega | (simp only []; omega)) (Sub.cons rfl (Sub.cons rfl (Sub.cons rfl (Sub.nil _)))) (fun w hw => Keep.mem hw)
  · try simp only [bz0, bz1, bz2, bz3, bz4, bz5, bz6, bz7, bz8, bz9] at h0
    refine cw_exit ?_
    refine ex_pass_exit ?_
    refine ex_pass_exit ?_
    refine ex_block_hit ?_
    refine ex_then ?_
    refine cw_seq ?_
    refine cw_seq ?_
    refine cw_region ?_
    refine sq_r (ry_field (o' := 32) rfl rfl) ?_
    refine sq_r (ry_part rfl) ?_
    refine sq_r (ry_move rfl) ?_
    refine sq_nil ?_
    refine ex_then ?_
    refine cw_block ?_
    refine cw_loop (X := Nat) (fun zz => [(33, .int .i64 (zz : Nat)), (32, .agg (nnexts n))]) (fun zz => []) (fun zz => zz ≤ 16 ∧ (∀ b, b < zz → 0 ≤ n.nx b ∧ n.nx b < 512)) (fun zz => 16 - zz) 0 ⟨by first | omega | (simp only []; omega), fun b hb => by first | omega | (simp only []; omega)⟩ (Sub.cons rfl (Sub.cons rfl (Sub.nil _))) (fun w hw => Keep.mem hw) ?_
    rintro i ⟨hj1, hj2⟩
    refine cw_seq ?_
    refine cw_region ?_
    refine sq_r (ry_int rfl rfl rfl) ?_
    refine sq_nil ?_
    refine ex_then ?_
    refine cw_seq ?_
    refine cw_cond rfl (fun h2 => ?_) (fun h2 => ?_)
    · try simp only [bz0, bz1, bz2, bz3, bz4, bz5, bz6, bz7, bz8, bz9] at h2
      refine cw_skip ?_
      refine ex_then ?_
      refine cw_seq ?_
      refine cw_block ?_
      refine cw_seq ?_
      refine cw_region ?_
      refine sq_r (ry_ixNext Try.underlying78 rfl rfl i rfl (by omega)) ?_
      refine sq_r (ry_assign rfl) ?_
      refine sq_nil ?_
      refine ex_then ?_
      refine cw_seq ?_
      refine cw_region ?_
      refine sq_r (ry_move rfl) ?_
      refine sq_r (ry_int rfl rfl rfl) ?_
      refine sq_r (ry_move rfl) ?_
      refine sq_gf rfl rfl rfl (fun hg => (Ry.yl (ry_move rfl))) ?_
      refine sq_gf rfl rfl rfl (fun hg => (Ry.yl (ry_int (ev_c hg rfl) rfl rfl))) ?_
      refine sq_r (ry_or rfl rfl rfl) ?_
      refine sq_nil ?_
      refine ex_then ?_
      refine cw_cond rfl (fun h3 => ?_) (fun h3 => ?_)
      · try simp only [bz0, bz1, bz2, bz3, bz4, bz5, bz6, bz7, bz8, bz9] at h3
        refine cw_seq ?_
        refine cw_region ?_
        refine sq_r (ry_assign rfl) ?_
        refine sq_nil ?_
        refine ex_then ?_
        refine cw_ret ?_
        refine ex_block_ret ?_
        refine ex_pass_ret ?_
        refine ex_pass_ret ?_
        refine ex_block_ret ?_
        refine ex_pass_ret ?_
        refine ex_ret (.inl rfl) (res_1 rfl (rv_tmp rfl)) (fun w1 hw => ?_)
        exact ⟨congrArg (fun b => Ending.returned (Value.bool b)) ((nmay_no (show i < 16 by omega) (by omega)).symm), Keep.mem hw⟩
      · try simp only [bz0, bz1, bz2, bz3, bz4, bz5, bz6, bz7, bz8, bz9] at h3
        refine cw_skip ?_
        refine ex_block ?_
        refine ex_then ?_
        refine cw_region ?_
        refine sq_r (ry_add rfl rfl (by omega)) ?_
        refine sq_r (ry_move rfl) ?_
        refine sq_nil ?_
        exact ex_again (x := (i)) (i + 1) ⟨by first | omega | (simp only []; omega), fun b hb => if e : b = i then (by subst e; omega) else hj2 b (by first | omega | (simp only []; omega))⟩ (by first | omega | (simp only []; omega)) (Sub.cons rfl (Sub.cons rfl (Sub.nil _))) (fun w hw => Keep.mem hw)
    · try simp only [bz0, bz1, bz2, bz3, bz4, bz5, bz6, bz7, bz8, bz9] at h2
      refine cw_exit ?_
      refine ex_pass_exit ?_
      refine ex_pass_exit ?_
      refine ex_block_hit ?_
      refine ex_then ?_
      refine cw_seq ?_
      refine cw_region ?_
      refine sq_r (ry_assign rfl) ?_
      refine sq_nil ?_
      refine ex_then ?_
      refine cw_ret ?_
      refine ex_ret (.inl rfl) (res_1 rfl (rv_tmp rfl)) (fun w1 hw => ?_)
      exact ⟨congrArg (fun b => Ending.returned (Value.bool b)) ((nmay_iff.2 (fun b hb => have hC := hi2 b (by omega); ⟨hC.1, hC.2.1, hC.2.2, hj2 b (by omega)⟩)).symm), Keep.mem hw⟩
instance ndmay_i {w0 : World} {L : List Ent} {n : Nd}  : FnQ Try.prog 41 w0 L [.agg (ncells n)] (.bool (nmay n)) (True) := ⟨fun hp w hw => ndmay_c w n ⟩

end Go.Proofs.Ytklhkejhndnhbaa

/- A node is put: walked. -/
namespace Go.Proofs.Ytklhkejhndnhbaa
open Go.Eng Go.Kb
set_option maxRecDepth 20000 in
theorem ndlaid_c (w0 w : World) (L : List Ent) (b : Sv) (bs : List UInt8) (n : Nd) (hw : Mem w0 (own benc 1 b bs :: L) w) (hpre : nmay n = true ∧ bs.length ≤ 100000) : Calls Try.prog 42 #[b.val, .agg (ncells n)] w fun e w' => ∃ zz : Sv, e = .returned (zz.val) ∧ (True) ∧ Mem w0 (own benc 1 zz (bs ++ nbytes n) :: L) w' := by
  obtain ⟨hp1, hp2⟩ := hpre
  refine calls_in (args := [_, _]) Try.func42 rfl Try.ntmps42 rfl hw ?_
  change Cw _ _ _ _ _ [(0, b.val), (1, .agg (ncells n))] (own benc 1 b bs :: L)
  refine cw_seq ?_
  refine cw_region ?_
  refine sq_boxA rfl fun b3 => ?_
  refine sq_r (ry_assign rfl) ?_
  refine sq_nil ?_
  refine ex_then ?_
  refine cw_seq ?_
  refine cw_seq ?_
  refine cw_region ?_
  refine sq_r (ry_field (o' := 0) rfl rfl) ?_
  refine sq_r (ry_part rfl) ?_
  refine sq_r (ry_move rfl) ?_
  refine sq_nil ?_
  refine ex_then ?_
  refine cw_block ?_
  refine cw_loop (X := Nat × Sv) (fun zz => [(10, .int .i64 (zz.1 : Nat)), (0, zz.2.val), (3, .pointer (some ⟨b3, 0, none⟩)), (9, .agg (nslots n))]) (fun zz => own benc 1 zz.2 (bs ++ npre n zz.1) :: blk b3 (ncells n) 80 :: L) (fun zz => zz.1 ≤ 16) (fun zz => 16 - zz.1) (0, b) (Nat.zero_le _) (Sub.cons rfl (Sub.cons rfl (Sub.cons rfl (Sub.cons rfl (Sub.nil _))))) (fun w hw => by rw [npre, List.append_nil]; exact Keep.mem hw) ?_
  rintro ⟨i, s1⟩ hi
  dsimp only
  simp only at hi
  have hpl := npre_length n i
  refine cw_seq ?_
  refine cw_region ?_
  refine sq_r (ry_int rfl rfl rfl) ?_
  refine sq_nil ?_
  refine ex_then ?_
  refine cw_seq ?_
  refine cw_cond rfl (fun h0 => ?_) (fun h0 => ?_)
  · try simp only [bz0, bz1, bz2, bz3, bz4, bz5, bz6, bz7, bz8, bz9] at h0
    have hm := nmay_iff.1 hp1 i (by omega)
    have hhl := (n.sl i).hop.toNat_lt
    refine cw_skip ?_
    refine ex_then ?_
    refine cw_seq ?_
    refine cw_block ?_
    refine cw_seq ?_
    refine cw_region ?_
    refine sq_r (ry_move rfl) ?_
    refine sq_r (ry_ixSlot Try.underlying77 rfl rfl i rfl (by omega)) ?_
    refine sq_allocA fun b6 => ?_
    refine sq_r (ry_assign rfl) ?_
    refine sq_storeW rfl rfl ?_
    refine sq_nil ?_
    refine ex_then ?_
    refine cw_seq ?_
    refine cw_region ?_
    refine sq_r (ry_move rfl) ?_
    refine sq_r (ry_field (o' := 32) rfl rfl) ?_
    refine sq_r (ry_idxA rfl rfl (by omega) (by omega)) ?_
    refine sq_r (Ry.to (v' := .int .i64 ((n.nx i).toNat : Nat)) (ry_bnx rfl i (by omega) (by simp only [Nat.add_eq, Int.toNat_natCast, Nat.mul_one, Nat.zero_add, Nat.add_zero] <;> omega)) (by congr 1; omega)) ?_
    refine sq_r (ry_assign rfl) ?_
    refine sq_nil ?_
    refine ex_then ?_
    refine cw_region ?_
    refine sq_r (ry_move rfl) ?_
    refine sq_r (ry_field (o' := 0) rfl rfl) ?_
    refine sq_r (Ry.to (v' := .int .i64 ((n.sl i).len.toNat : Nat)) (ry_cellc rfl) (by congr 1; omega)) ?_
    refine sq_r (ry_conv8 (n := (n.sl i).len.toNat) rfl rfl) ?_
    refine sq_r (ry_field (o' := 1) rfl rfl) ?_
    refine sq_r (ry_cellc rfl) ?_
    refine sq_r (ry_shr (p := ((n.sl i).hop).toNat) rfl rfl (by simp only [nb]; omega) (by omega)) ?_
    refine sq_r (ry_conv8 (n := (((n.sl i).hop).toNat / 2 ^ 8)) rfl rfl) ?_
    refine sq_r (ry_field (o' := 1) rfl rfl) ?_
    refine sq_r (ry_cellc rfl) ?_
    refine sq_r (ry_conv8 (n := ((n.sl i).hop).toNat) rfl rfl) ?_
    refine sq_r (ry_move rfl) ?_
    refine sq_r (ry_shr (p := (n.nx i).toNat) rfl rfl (by simp only [nb]; omega) (by omega)) ?_
    refine sq_r (ry_conv8 (n := ((n.nx i).toNat / 2 ^ 8)) rfl rfl) ?_
    refine sq_r (ry_move rfl) ?_
    refine sq_r (ry_conv8 (n := (n.nx i).toNat) rfl rfl) ?_
    refine sq_buildSlice (enc := benc) (vals := [_, _, _, _, _]) [(b8 ((n.sl i).len.toNat)), (b8 (((n.sl i).hop).toNat / 2 ^ 8)), (b8 (((n.sl i).hop).toNat)), (b8 ((n.nx i).toNat / 2 ^ 8)), (b8 ((n.nx i).toNat))] rfl rfl rfl (by decide) (by decide) fun b34 => ?_
    refine sq_append (s := s1) (ys := [(b8 ((n.sl i).len.toNat)), (b8 (((n.sl i).hop).toNat / 2 ^ 8)), (b8 (((n.sl i).hop).toNat)), (b8 ((n.nx i).toNat / 2 ^ 8)), (b8 ((n.nx i).toNat))]) rfl rfl (by decide) (fun w hw => src_rows (s := ⟨false, b34, 0, 5, 5, none⟩) Try.underlying49 (by decide) ((inferInstance : Hd _ _ ⟨false, b34, 0, 5, 5, none⟩ benc 1 [(b8 ((n.sl i).len.toNat)), (b8 (((n.sl i).hop).toNat / 2 ^ 8)), (b8 (((n.sl i).hop).toNat)), (b8 ((n.nx i).toNat / 2 ^ 8)), (b8 ((n.nx i).toNat))]).h w hw)) (by simp only [List.length_append, List.length_cons, List.length_nil]; omega) (by simp only [List.length_append, List.length_cons, List.length_nil]; omega) fun s35 hs35 hl35 => ?_
    refine sq_r (ry_assign rfl) ?_
    refine sq_nil ?_
    refine ex_block ?_
    refine ex_then ?_
    refine cw_region ?_
    refine sq_r (ry_add rfl rfl (by omega)) ?_
    refine sq_r (ry_move rfl) ?_
    refine sq_nil ?_
    exact ex_again (x := (i, s1)) (i + 1, s35) (by simp only; omega) (by simp only; omega) (Sub.cons rfl (Sub.cons rfl (Sub.cons rfl (Sub.cons rfl (Sub.nil _))))) (fun w hw => by rw [List.append_assoc, npre_step] at hw; dsimp only; exact Keep.mem hw)
  · try simp only [bz0, bz1, bz2, bz3, bz4, bz5, bz6, bz7, bz8, bz9] at h0
    obtain rfl : i = 16 := by omega
    refine cw_exit ?_
    refine ex_pass_exit ?_
    refine ex_pass_exit ?_
    refine ex_block_hit ?_
    refine ex_then ?_
    refine cw_seq ?_
    refine cw_region ?_
    refine sq_r (ry_move rfl) ?_
    refine sq_r (ry_assign rfl) ?_
    refine sq_nil ?_
    refine ex_then ?_
    refine cw_ret ?_
    refine ex_ret (.inl rfl) (res_1 rfl (rv_tmp rfl)) (fun w1 hw => ?_)
    exact ⟨s1, rfl, trivial, (Keep.mem hw : Mem w0 (own benc 1 s1 (bs ++ npre n 16) :: L) _)⟩
instance ndlaid_i {w0 : World} {L R : List Ent} {i : Nat} {b : Sv} {bs : List UInt8} {n : Nd} [q : Owns L b benc 1 bs i] [d : DelI L i R] : FnC Try.prog 42 w0 L [b.val, .agg (ncells n)] (Sv) (fun zz => zz.val) (fun zz => own benc 1 zz (bs ++ nbytes n) :: R) (fun zz => True) (nmay n = true ∧ bs.length ≤ 100000) := ⟨fun hp w hw => ndlaid_c w0 w R b bs n (mem_one q.h d.h hw) hp⟩

end Go.Proofs.Ytklhkejhndnhbaa

/- Parts of bytes, an iterator: walked. -/
namespace Go.Proofs.Ytklhkejhndnhbaa
open Go.Eng Go.Kb
set_option maxRecDepth 20000 in
theorem parts1_it {b2 b3 : Nat} {b : Sv} {bs : List UInt8} {c m : Nat} (hc : 0 < c) (hm : m = bs.length / c) : Iter Try.prog 53 #[.pointer (some ⟨b2, 0, none⟩), .pointer (some ⟨b3, 0, none⟩)] (fun k => [.int .i64 (k : Nat), (b.sub 1 (k * c) ((k + 1) * c)).val].toArray) m (fun w => w.cell? ⟨b2, 0, none⟩ = some b.val ∧ w.cell? ⟨b3, 0, none⟩ = some (.int .i64 (c : Nat)) ∧ Lies benc 1 (hp w) b bs) := by
  intro l J Jx W0 hJ hJx hN hY h0
  change Calls _ _ ([.func (.yield l) #[] #[], .pointer (some ⟨b2, 0, none⟩), .pointer (some ⟨b3, 0, none⟩)] : List Value).toArray _ _
  refine calls_of (args := [_, _, _]) Try.func53 rfl Try.ntmps53 rfl ?_
  change Cw _ _ _ _ _ [(0, .func (.yield l) #[] #[]), (1, .pointer (some ⟨b2, 0, none⟩)), (2, .pointer (some ⟨b3, 0, none⟩))] []
  refine cw_seq ?_
  refine cw_region ?_
  refine sq_r (ry_assign rfl) ?_
  refine sq_nil ?_
  refine ex_then ?_
  refine cw_block ?_
  refine cw_iter (X := Nat) (fun zz => [(4, .int .i64 (zz : Nat)), (0, .func (.yield l) #[] #[]), (1, .pointer (some ⟨b2, 0, none⟩)), (2, .pointer (some ⟨b3, 0, none⟩))]) (fun zz w => zz ≤ m ∧ J zz w) (fun zz => m - zz) 0 (Sub.cons rfl (Sub.cons rfl (Sub.cons rfl (Sub.cons rfl (Sub.nil _))))) (fun w hw => ⟨Nat.zero_le _, hJ _ _ _ h0 hw.below⟩) ?_
  rintro i W ⟨hi, hj⟩
  obtain ⟨n1, n2, n3⟩ := hN i W hj
  have gb : Gv W b benc 1 bs := ⟨n3⟩
  have hbd := n3.bd
  have hdv : ((bs.length : Nat) : Int) / ((c : Nat) : Int) = ((m : Nat) : Int) := by rw [hm]; exact (Int.natCast_ediv _ _).symm
  have hml : m * c ≤ bs.length := by rw [hm]; exact Nat.div_mul_le_self _ _
  have hmm : m ≤ m * c := Nat.le_mul_of_pos_right m hc
  refine cw_seq ?_
  refine cw_seq ?_
  refine cw_region ?_
  refine sq_r (ry_move rfl) ?_
  refine sq_r (ry_old rfl n1) ?_
  refine sq_r (ry_lenH rfl) ?_
  refine sq_r (ry_old rfl n2) ?_
  refine sq_r (ry_quo rfl rfl (by omega) (by omega)) ?_
  refine sq_r (ry_int rfl rfl rfl) ?_
  refine sq_nil ?_
  refine ex_then ?_
  refine cw_cond rfl (fun h0 => ?_) (fun h0 => ?_)
  · try simp only [bz0, bz1, bz2, bz3, bz4, bz5, bz6, bz7, bz8, bz9] at h0
    have him : i < m := by rw [hdv] at h0; omega
    have hmu : (i + 1) * c ≤ m * c := Nat.mul_le_mul_right c (by omega)
    have hmu2 : i * c ≤ (i + 1) * c := Nat.mul_le_mul_right c (by omega)
    have hmz : ((i : Nat) : Int) * ((c : Nat) : Int) = ((i * c : Nat) : Int) := (Int.natCast_mul _ _).symm
    have hmz2 : (((i : Nat) : Int) + 1) * ((c : Nat) : Int) = (((i + 1) * c : Nat) : Int) := by rw [Int.natCast_mul]; rfl
    refine cw_skip ?_
    refine ex_then ?_
    refine cw_seq ?_
    refine cw_block ?_
    refine cw_seq ?_
    refine cw_yields ?_
    refine si_r (ry_move rfl) ?_
    refine si_r (ry_move rfl) ?_
    refine si_r (ry_old rfl n1) ?_
    refine si_r (ry_move rfl) ?_
    refine si_r (ry_old rfl n2) ?_
    refine si_r (ry_mul rfl rfl (by omega)) ?_
    refine si_r (ry_move rfl) ?_
    refine si_r (ry_add rfl rfl (by omega)) ?_
    refine si_r (ry_old rfl n2) ?_
    refine si_r (ry_mul rfl rfl (by omega)) ?_
    have rg23 : Rg (i * c) ((i + 1) * c) bs.length := ⟨by omega⟩
    refine si_r (ry_subH rfl rfl rfl (i * c) ((i + 1) * c) rfl rfl rg23.h.1 rg23.h.2) ?_
    refine si_yield (vs := [.int .i64 (i : Nat), (b.sub 1 (i * c) ((i + 1) * c)).val]) rfl rfl (fun w hw => hY i w him (hJ _ _ _ hj hw.below)) (fun W2 hJ2 => ?_) (fun W2 hJ2 => ?_)
    · refine si_r (ry_not rfl) ?_
      refine si_nil ?_
      refine ex_then ?_
      refine cw_cond rfl (fun h1 => ?_) (fun h1 => ?_)
      · exfalso; simp at h1
      · try simp only [bz0, bz1, bz2, bz3, bz4, bz5, bz6, bz7, bz8, bz9] at h1
        refine cw_skip ?_
        refine ex_block ?_
        refine ex_then ?_
        refine cw_region ?_
        refine sq_r (ry_move rfl) ?_
        refine sq_r (ry_add rfl rfl (by omega)) ?_
        refine sq_r (ry_assign rfl) ?_
        refine sq_nil ?_
        exact ex_iter (i + 1) (by first | omega | (simp only []; omega)) (Sub.cons rfl (Sub.cons rfl (Sub.cons rfl (Sub.cons rfl (Sub.nil _))))) (fun w hw => ⟨by omega, hJ _ _ _ hJ2 hw.below⟩)
    · refine si_r (ry_not rfl) ?_
      refine si_nil ?_
      refine ex_then ?_
      refine cw_cond rfl (fun h1 => ?_) (fun h1 => ?_)
      · try simp only [bz0, bz1, bz2, bz3, bz4, bz5, bz6, bz7, bz8, bz9] at h1
        refine cw_ret ?_
        refine ex_block_ret ?_
        refine ex_pass_ret ?_
        refine ex_pass_ret ?_
        refine ex_block_ret ?_
        refine ex_ret (.inl rfl) (res_none rfl) (fun w1 hw => ?_)
        exact ⟨⟨_, rfl⟩, .inr ⟨_, hJx _ _ _ hJ2 hw.below⟩⟩
      · exfalso; simp at h1
  · try simp only [bz0, bz1, bz2, bz3, bz4, bz5, bz6, bz7, bz8, bz9] at h0
    obtain rfl : i = m := by rw [hdv] at h0; omega
    refine cw_exit ?_
    refine ex_pass_exit ?_
    refine ex_pass_exit ?_
    refine ex_block_hit ?_
    refine ex_ret (.inr rfl) (res_none rfl) (fun w1 hw => ?_)
    exact ⟨⟨_, rfl⟩, .inl (hJ _ _ _ hj hw.below)⟩
set_option maxRecDepth 20000 in
theorem parts_c (w : World) (b : Sv) (bs : List UInt8) (n : Int) (hb : Lies benc 1 (hp w) b bs) : Calls Try.prog 50 #[b.val, .int .i64 n] w fun e w' => ∃ zz : Nat × Nat, e = .returned (.func (.func 53) #[] #[.pointer (some ⟨zz.1, 0, none⟩), .pointer (some ⟨zz.2, 0, none⟩)]) ∧ (True) ∧ Mem w [blk zz.1 #[b.val] 49, blk zz.2 #[.int .i64 n] 3] w' := by
  have ghb : Gv w b benc 1 bs := ⟨hb⟩
  refine calls_of (args := [_, _]) Try.func50 rfl Try.ntmps50 rfl ?_
  change Cw _ _ _ _ _ [(0, b.val), (1, .int .i64 n)] []
  refine cw_seq ?_
  refine cw_region ?_
  refine sq_box1 (by first | rfl | exact Sv.cells_val _) rfl fun b2 => ?_
  refine sq_box1 (by first | rfl | exact Sv.cells_val _) rfl fun b3 => ?_
  refine sq_r (ry_assign rfl) ?_
  refine sq_nil ?_
  refine ex_then ?_
  refine cw_seq ?_
  refine cw_region ?_
  refine sq_r (ry_makeFunc rfl) ?_
  refine sq_r (ry_assign rfl) ?_
  refine sq_nil ?_
  refine ex_then ?_
  refine cw_ret ?_
  refine ex_ret (.inl rfl) (res_1 rfl (rv_tmp rfl)) (fun w1 hw => ?_)
  exact ⟨(b2, b3), rfl, trivial, (Keep.mem hw : Mem w [blk b2 #[b.val] 49, blk b3 #[.int .i64 n] 3] _)⟩
instance parts_i {w0 : World} {L : List Ent} {b : Sv} {bs : List UInt8} {n : Int} [hb : HdE w0 L benc 1 b bs] : FnC Try.prog 50 w0 L [b.val, .int .i64 n] (Nat × Nat) (fun zz => .func (.func 53) #[] #[.pointer (some ⟨zz.1, 0, none⟩), .pointer (some ⟨zz.2, 0, none⟩)]) (fun zz => blk zz.1 #[b.val] 49 :: blk zz.2 #[.int .i64 n] 3 :: L) (fun zz => True) (True) := ⟨fun hp w hw => (parts_c w b bs n (hb.h w hw)).mono fun e w' ⟨x, h1, h2, h3⟩ => ⟨x, h1, h2, hw.call h3⟩⟩

end Go.Proofs.Ytklhkejhndnhbaa

/- A node is read: walked. -/
namespace Go.Proofs.Ytklhkejhndnhbaa
open Go.Eng Go.Kb
set_option maxRecDepth 20000 in
theorem ndread_c (w : World) (b : Sv) (bs : List UInt8) (hb : Lies benc 1 (hp w) b bs) : Calls Try.prog 51 #[b.val] w fun e w' => e = .returned (.tuple #[.agg (ncells (readN bs)), .int .i64 (readE bs)]) ∧ Mem w [] w' := by
  have ghb : Gv w b benc 1 bs := ⟨hb⟩
  refine calls_of (args := [_]) Try.func51 rfl Try.ntmps51 rfl ?_
  change Cw _ _ _ _ _ [(0, b.val)] []
  refine cw_seq ?_
  refine cw_region ?_
  refine sq_allocA fun b2 => ?_
  refine sq_r (ry_assign rfl) ?_
  refine sq_nil ?_
  refine ex_then ?_
  refine cw_seq ?_
  refine cw_seq ?_
  refine cw_region ?_
  refine sq_r (ry_move rfl) ?_
  refine sq_r (ry_lenH rfl) ?_
  refine sq_r (ry_int rfl rfl rfl) ?_
  refine sq_nil ?_
  refine ex_then ?_
  refine cw_cond rfl (fun h0 => ?_) (fun h0 => ?_)
  · try simp only [bz0, bz1, bz2, bz3, bz4, bz5, bz6, bz7, bz8, bz9] at h0
    obtain ⟨hr1, hr2⟩ := read_long (xs := bs) (by omega)
    refine cw_seq ?_
    refine cw_region ?_
    refine sq_r (ry_buildc rfl) ?_
    refine sq_storeW rfl rfl ?_
    refine sq_r (ry_assign rfl) ?_
    refine sq_nil ?_
    refine ex_then ?_
    refine cw_ret ?_
    refine ex_pass_ret ?_
    refine ex_ret (.inl rfl) (res_2 rfl (rv_agg rfl) (rv_tmp rfl)) (fun w1 hw => ?_)
    exact ⟨(by rw [hr1, hr2]), Keep.mem hw⟩
  · try simp only [bz0, bz1, bz2, bz3, bz4, bz5, bz6, bz7, bz8, bz9] at h0
    have hl : bs.length = 80 := by omega
    refine cw_skip ?_
    refine ex_then ?_
    refine cw_seq ?_
    refine cw_region ?_
    refine sq_allocA fun b4 => ?_
    refine sq_nil ?_
    refine ex_then ?_
    refine cw_seq ?_
    refine cw_seq ?_
    refine cw_region ?_
    refine sq_r (ry_move rfl) ?_
    refine sq_callC rfl trivial fun x12 hp12 => ?_
    refine sq_nil ?_
    refine ex_then ?_
    refine cw_block ?_
    refine cw_rangeFunc (vals := fun k => [.int .i64 (k : Nat), (b.sub 1 (k * 5) ((k + 1) * 5)).val]) (m := 16) (X := Unit) (Y := Unit) rfl (parts1_it (c := 5) (by decide) (by omega)) (fun _ => rfl) (by decide) (envI := [(4, .pointer (some ⟨b4, 0, none⟩)), (2, .pointer (some ⟨b2, 0, none⟩)), (12, .func (.func 53) #[] #[.pointer (some ⟨x12.1, 0, none⟩), .pointer (some ⟨x12.2, 0, none⟩)])]) (Sub.cons rfl (Sub.cons rfl (Sub.cons rfl (Sub.nil _)))) (fun k zz => [blk b4 (ncells (ngetP bs k)) 80, blk x12.1 #[b.val] 49, blk x12.2 #[.int .i64 (5 : Nat)] 3, blk b2 (ncells Nd.zero) 80]) (fun k zz => True) () trivial (fun w hw => by rw [ngetP_zero]; exact Keep.mem hw) (fun k zz w hI hw => ⟨(hw.cell (inferInstance : Has _ x12.1 _ _ _).h 0).trans rfl, (hw.cell (inferInstance : Has _ x12.2 _ _ _).h 0).trans rfl, hb.mono hw.below⟩) (fun yy => []) (fun yy => False) ?_ ?_ ?_
    · rintro lr k ⟨⟩ r0 hk hI
      have rg : Rg (k * 5) ((k + 1) * 5) bs.length := ⟨by omega, by omega⟩
      change Cw _ _ _ _ _ [(14, (b.sub 1 (k * 5) ((k + 1) * 5)).val), (13, .int .i64 (k : Nat)), (4, .pointer (some ⟨b4, 0, none⟩)), (2, .pointer (some ⟨b2, 0, none⟩)), (12, .func (.func 53) #[] #[.pointer (some ⟨x12.1, 0, none⟩), .pointer (some ⟨x12.2, 0, none⟩)])] (r0 :: [blk b4 (ncells (ngetP bs k)) 80, blk x12.1 #[b.val] 49, blk x12.2 #[.int .i64 (5 : Nat)] 3, blk b2 (ncells Nd.zero) 80])
      refine cw_seq ?_
      refine cw_region ?_
      refine sq_r (ry_assign rfl) ?_
      refine sq_nil ?_
      refine ex_then ?_
      refine cw_region ?_
      refine sq_r (ry_assign rfl) ?_
      refine sq_nil ?_
      refine ex_assigned [blk b4 (ncells (ngetP bs k)) 80, blk x12.1 #[b.val] 49, blk x12.2 #[.int .i64 (5 : Nat)] 3, blk b2 (ncells Nd.zero) 80] (fun w hw => Keep.mem hw) fun r1 => ?_
      refine cw_block ?_
      refine cw_seq ?_
      refine cw_lin [18] [[], [], [], [], [], [], [], [], [], [], [], [], [], [], [], [], [], [], []] [0, 1, 2, 3, 4, 5, 6, 7, 8, 9, 10, 11, 12, 13, 14, 15, 16, 17, 18] [] (fun _ hw => Keep.mem hw) (by kernel_rfl) (by kernel_rfl) ?_
      refine ln_r rfl (ry_move rfl) ?_
      refine ln_r rfl (ry_move rfl) ?_
      refine ln_r rfl (ry_idxH rfl rfl 0 rfl (by rw [sub_len (by omega)]; omega)) ?_
      refine ln_r rfl (ry_elemcH (j := 0) rfl 0 (sub_at5 hl hk 0 (by decide)) rfl (by decide)) ?_
      refine ln_r rfl (ry_conv_u8 rfl) ?_
      refine ln_r rfl (ry_move rfl) ?_
      refine ln_r rfl (ry_idxH rfl rfl 1 rfl (by rw [sub_len (by omega)]; omega)) ?_
      refine ln_r rfl (ry_elemcH (j := 0) rfl 1 (sub_at5 hl hk 1 (by decide)) rfl (by decide)) ?_
      refine ln_r rfl (ry_conv_u8 rfl) ?_
      refine ln_r rfl (ry_shl8 rfl rfl) ?_
      refine ln_r rfl (ry_move rfl) ?_
      refine ln_r rfl (ry_idxH rfl rfl 2 rfl (by rw [sub_len (by omega)]; omega)) ?_
      refine ln_r rfl (ry_elemcH (j := 0) rfl 2 (sub_at5 hl hk 2 (by decide)) rfl (by decide)) ?_
      refine ln_r rfl (ry_conv_u8 rfl) ?_
      refine ln_r rfl (Ry.to (v' := .int .u16 (hop16 (bs.getD (5 * k + 1) 0) (bs.getD (5 * k + 2) 0)).toNat) (ry_or8 rfl rfl) (by rw [hop16_toNat])) ?_
      refine ln_r rfl (Ry.to (v' := .agg (slcells (slotG bs k))) (ry_buildc rfl) rfl) ?_
      refine ln_r rfl (ry_field (o' := 0) rfl rfl) ?_
      refine ln_r rfl (ry_idxA rfl rfl (by omega) (by omega)) ?_
      refine ln_st rfl (st_bstSl rfl rfl k (by omega) (by simp only [Nat.add_eq, Int.toNat_natCast, Nat.mul_one, Nat.zero_add, Nat.add_zero] <;> omega) ⟨fun _ hw => Keep.mem hw, ?_⟩)
      refine ln_nil ?_
      refine ex_then ?_
      refine cw_lin [13] [[], [], [], [], [], [], [], [], [], [], [], [], [], []] [0, 1, 2, 3, 4, 5, 6, 7, 8, 9, 10, 11, 12, 13] [] (fun _ hw => Keep.mem hw) (by kernel_rfl) (by kernel_rfl) ?_
      refine ln_r rfl (ry_move rfl) ?_
      refine ln_r rfl (ry_move rfl) ?_
      refine ln_r rfl (ry_idxH rfl rfl 3 rfl (by rw [sub_len (by omega)]; omega)) ?_
      refine ln_r rfl (ry_elemcH (j := 0) rfl 3 (sub_at5 hl hk 3 (by decide)) rfl (by decide)) ?_
      refine ln_r rfl (ry_conv_u8 rfl) ?_
      refine ln_r rfl (ry_shl8 rfl rfl) ?_
      refine ln_r rfl (ry_move rfl) ?_
      refine ln_r rfl (ry_idxH rfl rfl 4 rfl (by rw [sub_len (by omega)]; omega)) ?_
      refine ln_r rfl (ry_elemcH (j := 0) rfl 4 (sub_at5 hl hk 4 (by decide)) rfl (by decide)) ?_
      refine ln_r rfl (ry_conv_u8 rfl) ?_
      refine ln_r rfl (Ry.to (v' := .int .i64 (nextR bs k)) (ry_or8 rfl rfl) (by rw [hop16_toNat]; rfl)) ?_
      refine ln_r rfl (ry_field (o' := 32) rfl rfl) ?_
      refine ln_r rfl (ry_idxA rfl rfl (by omega) (by omega)) ?_
      refine ln_st rfl (st_bstNx rfl rfl k (by omega) (by simp only [Nat.add_eq, Int.toNat_natCast, Nat.mul_one, Nat.zero_add, Nat.add_zero] <;> omega) ⟨fun _ hw => Keep.mem hw, ?_⟩)
      refine ln_nil ?_
      refine ex_block ?_
      exact ex_round () trivial (fun w hw => by rw [ngetP_succ bs hk] at hw; exact Keep.mem hw)
    · rintro D ⟨⟩ hI
      refine ex_block ?_
      refine ex_then ?_
      refine cw_seq ?_
      refine cw_seq ?_
      refine cw_region ?_
      refine sq_r (ry_whole rfl) ?_
      refine sq_y (yl_callC rfl trivial) ?_
      refine sq_r (ry_not rfl) ?_
      refine sq_nil ?_
      refine ex_then ?_
      refine cw_cond rfl (fun h1 => ?_) (fun h1 => ?_)
      · try simp only [bz0, bz1, bz2, bz3, bz4, bz5, bz6, bz7, bz8, bz9] at h1
        have hm : nmay (nget bs) = false := by simpa [nget] using h1
        refine cw_seq ?_
        refine cw_region ?_
        refine sq_r (ry_buildc rfl) ?_
        refine sq_storeW rfl rfl ?_
        refine sq_r (ry_assign rfl) ?_
        refine sq_nil ?_
        refine ex_then ?_
        refine cw_ret ?_
        refine ex_pass_ret ?_
        refine ex_retM (.inl rfl) (res_2 rfl (rv_agg rfl) (rv_tmp rfl)) (fun w1 hw => ?_)
        exact ⟨(by rw [readN, readE, if_neg (by rw [hm]; simp), if_pos hl, hm]; rfl), Keep.mem hw⟩
      · try simp only [bz0, bz1, bz2, bz3, bz4, bz5, bz6, bz7, bz8, bz9] at h1
        have hm : nmay (nget bs) = true := h1
        refine cw_skip ?_
        refine ex_then ?_
        refine cw_seq ?_
        refine cw_region ?_
        refine sq_r (ry_whole rfl) ?_
        refine sq_storeW rfl rfl ?_
        refine sq_r (ry_assign rfl) ?_
        refine sq_nil ?_
        refine ex_then ?_
        refine cw_ret ?_
        refine ex_retM (.inl rfl) (res_2 rfl (rv_agg rfl) (rv_tmp rfl)) (fun w1 hw => ?_)
        exact ⟨(by rw [readN, readE, if_pos ⟨hl, hm⟩, if_pos hl, if_pos hm]; rfl), Keep.mem hw⟩
    · exact fun _ _ h => h.elim
instance ndread_i {w0 : World} {L : List Ent} {b : Sv} {bs : List UInt8} [hb : HdE w0 L benc 1 b bs] : FnQ Try.prog 51 w0 L [b.val] (.tuple #[.agg (ncells (readN bs)), .int .i64 (readE bs)]) (True) := ⟨fun hp w hw => ndread_c w b bs (hb.h w hw)⟩

end Go.Proofs.Ytklhkejhndnhbaa

/- Many nodes are put, and read: walked. -/
namespace Go.Proofs.Ytklhkejhndnhbaa
open Go.Eng Go.Kb
set_option maxRecDepth 20000 in
theorem ndall_c (w : World) (l : Sv) (ls : List Nd) (hl : Lies ncells 48 (hp w) l ls) : Calls Try.prog 24 #[l.val] w fun e w' => ∃ zz : Sv, e = .returned (.tuple #[zz.val, .int .i64 (allE ls)]) ∧ (True) ∧ Mem w [own benc 1 zz (allBV ls)] w' := by
  have ghl : Gv w l ncells 48 ls := ⟨hl⟩
  refine calls_of (args := [_]) Try.func24 rfl Try.ntmps24 rfl ?_
  change Cw _ _ _ _ _ [(0, l.val)] []
  refine cw_seq ?_
  refine cw_region ?_
  refine sq_r (ry_assign rfl) ?_
  refine sq_r (ry_assign rfl) ?_
  refine sq_nil ?_
  refine ex_then ?_
  refine cw_seq ?_
  refine cw_seq ?_
  refine cw_region ?_
  refine sq_r (ry_move rfl) ?_
  refine sq_r (ry_lenH rfl) ?_
  refine sq_r (ry_int rfl rfl rfl) ?_
  refine sq_nil ?_
  refine ex_then ?_
  refine cw_cond rfl (fun h0 => ?_) (fun h0 => ?_)
  · try simp only [bz0, bz1, bz2, bz3, bz4, bz5, bz6, bz7, bz8, bz9] at h0
    have hno : allOk ls = false := by rw [allOk, decide_eq_false (by omega)]; rfl
    refine cw_seq ?_
    refine cw_region ?_
    refine sq_r (ry_assign rfl) ?_
    refine sq_r (ry_assign rfl) ?_
    refine sq_nil ?_
    refine ex_then ?_
    refine cw_ret ?_
    refine ex_pass_ret ?_
    refine ex_ret (.inl rfl) (res_2 rfl (rv_tmp rfl) (rv_tmp rfl)) (fun w1 hw => ?_)
    exact ⟨Sv.none, by rw [allE, hno]; rfl, trivial, by rw [allBV, hno]; exact (Keep.mem hw : Mem w [] _).nilOwn benc 1⟩
  · try simp only [bz0, bz1, bz2, bz3, bz4, bz5, bz6, bz7, bz8, bz9] at h0
    have hlen : ls.length ≤ 512 := by omega
    refine cw_skip ?_
    refine ex_then ?_
    refine cw_seq ?_
    refine cw_region ?_
    refine sq_r (ry_move rfl) ?_
    refine sq_r (ry_lenH rfl) ?_
    refine sq_r (ry_mul rfl rfl (by omega)) ?_
    refine sq_makeS (enc := benc) (n := 0) (cap := (ls.length * 80)) 0 rfl rfl rfl rfl rfl (by omega) (by omega) (by omega) fun b13 => ?_
    refine sq_r (ry_assign rfl) ?_
    refine sq_nil ?_
    refine ex_then ?_
    refine cw_seq ?_
    refine cw_seq ?_
    refine cw_region ?_
    refine sq_r (ry_move rfl) ?_
    refine sq_r (ry_lenH rfl) ?_
    refine sq_r (ry_move rfl) ?_
    refine sq_nil ?_
    refine ex_then ?_
    refine cw_block ?_
    refine cw_loop (X := Nat × Sv) (fun zz => [(16, .int .i64 (zz.1 : Nat)), (4, zz.2.val), (14, l.val), (15, .int .i64 (ls.length : Nat))]) (fun zz => [own benc 1 zz.2 (allB (ls.take zz.1))]) (fun zz => zz.1 ≤ ls.length ∧ ∀ j x, j < zz.1 → ls[j]? = some x → nmay x = true) (fun zz => ls.length - zz.1) (0, _) ⟨Nat.zero_le _, fun j x hj => by first | omega | (simp only []; omega)⟩ (Sub.cons rfl (Sub.cons rfl (Sub.cons rfl (Sub.cons rfl (Sub.nil _))))) (fun w hw => (Keep.mem hw : Mem _ [own benc 1 _ (List.replicate 0 0)] _)) ?_
    rintro ⟨i, s1⟩ ⟨hi1, hi2⟩
    dsimp only
    simp only at hi1 hi2
    have hal := allB_length (ls.take i)
    have htl := List.length_take (l := ls) (i := i)
    refine cw_seq ?_
    refine cw_region ?_
    refine sq_r (ry_int rfl rfl rfl) ?_
    refine sq_nil ?_
    refine ex_then ?_
    refine cw_seq ?_
    refine cw_cond rfl (fun h1 => ?_) (fun h1 => ?_)
    · try simp only [bz0, bz1, bz2, bz3, bz4, bz5, bz6, bz7, bz8, bz9] at h1
      refine cw_skip ?_
      refine ex_then ?_
      refine cw_seq ?_
      refine cw_block ?_
      refine cw_seq ?_
      refine cw_region ?_
      obtain ⟨e18, he18⟩ := get_some (xs := ls) (i := i) (by omega)
      refine sq_r (ry_idxH rfl rfl i rfl (by omega)) ?_
      refine sq_r (ry_elemH rfl i he18 rfl) ?_
      refine sq_allocA fun b6 => ?_
      refine sq_storeW rfl rfl ?_
      refine sq_nil ?_
      refine ex_then ?_
      refine cw_seq ?_
      refine cw_seq ?_
      refine cw_region ?_
      refine sq_r (ry_whole rfl) ?_
      refine sq_y (yl_callC rfl trivial) ?_
      refine sq_r (ry_not rfl) ?_
      refine sq_nil ?_
      refine ex_then ?_
      refine cw_cond rfl (fun h2 => ?_) (fun h2 => ?_)
      · try simp only [bz0, bz1, bz2, bz3, bz4, bz5, bz6, bz7, bz8, bz9] at h2
        have hno : allOk ls = false := allOk_no he18 (by rw [h2]; simp)
        refine cw_seq ?_
        refine cw_region ?_
        refine sq_r (ry_assign rfl) ?_
        refine sq_r (ry_assign rfl) ?_
        refine sq_nil ?_
        refine ex_then ?_
        refine cw_ret ?_
        refine ex_pass_ret ?_
        refine ex_block_ret ?_
        refine ex_pass_ret ?_
        refine ex_pass_ret ?_
        refine ex_block_ret ?_
        refine ex_pass_ret ?_
        refine ex_ret (.inl rfl) (res_2 rfl (rv_tmp rfl) (rv_tmp rfl)) (fun w1 hw => ?_)
        exact ⟨Sv.none, by rw [allE, hno]; rfl, trivial, by rw [allBV, hno]; exact (Keep.mem hw : Mem w [] _).nilOwn benc 1⟩
      · try simp only [bz0, bz1, bz2, bz3, bz4, bz5, bz6, bz7, bz8, bz9] at h2
        refine cw_skip ?_
        refine ex_then ?_
        refine cw_region ?_
        refine sq_r (ry_move rfl) ?_
        refine sq_r (ry_whole rfl) ?_
        refine sq_callC rfl ⟨h2, by omega⟩ fun x25 hp25 => ?_
        refine sq_r (ry_assign rfl) ?_
        refine sq_nil ?_
        refine ex_block ?_
        refine ex_then ?_
        refine cw_region ?_
        refine sq_r (ry_add rfl rfl (by omega)) ?_
        refine sq_r (ry_move rfl) ?_
        refine sq_nil ?_
        exact ex_again (x := (i, s1)) (i + 1, x25) ⟨by simp only; omega, fun j x hj hx => if e : j = i then (by subst e; rw [he18] at hx; cases hx; exact h2) else hi2 j x (by first | omega | (simp only []; omega)) hx⟩ (by simp only; omega) (Sub.cons rfl (Sub.cons rfl (Sub.cons rfl (Sub.cons rfl (Sub.nil _))))) (fun w hw => by rw [allB_snoc he18]; exact Keep.mem hw)
    · try simp only [bz0, bz1, bz2, bz3, bz4, bz5, bz6, bz7, bz8, bz9] at h1
      obtain rfl : i = ls.length := by omega
      have hyes : allOk ls = true := by rw [allOk, decide_eq_true hlen, Bool.true_and]; exact List.all_eq_true.2 (fun x hx => by obtain ⟨j, hj, rfl⟩ := List.getElem_of_mem hx; exact hi2 j _ hj (by simp [hj]))
      refine cw_exit ?_
      refine ex_pass_exit ?_
      refine ex_pass_exit ?_
      refine ex_block_hit ?_
      refine ex_then ?_
      refine cw_seq ?_
      refine cw_region ?_
      refine sq_r (ry_move rfl) ?_
      refine sq_r (ry_assign rfl) ?_
      refine sq_r (ry_assign rfl) ?_
      refine sq_nil ?_
      refine ex_then ?_
      refine cw_ret ?_
      refine ex_ret (.inl rfl) (res_2 rfl (rv_tmp rfl) (rv_tmp rfl)) (fun w1 hw => ?_)
      exact ⟨s1, by simp [allE, hyes], trivial, by rw [allBV, if_pos hyes]; rw [List.take_length] at hw; exact Keep.mem hw⟩
instance ndall_i {w0 : World} {L : List Ent} {l : Sv} {ls : List Nd} [hl : HdE w0 L ncells 48 l ls] : FnC Try.prog 24 w0 L [l.val] (Sv) (fun zz => .tuple #[zz.val, .int .i64 (allE ls)]) (fun zz => own benc 1 zz (allBV ls) :: L) (fun zz => True) (True) := ⟨fun hp w hw => (ndall_c w l ls (hl.h w hw)).mono fun e w' ⟨x, h1, h2, h3⟩ => ⟨x, h1, h2, hw.call h3⟩⟩
set_option maxRecDepth 20000 in
theorem ndrall_c (w : World) (b : Sv) (bs : List UInt8) (hb : Lies benc 1 (hp w) b bs) : Calls Try.prog 35 #[b.val] w fun e w' => ∃ zz : Sv, e = .returned (.tuple #[zz.val, .int .i64 (rallE bs)]) ∧ (True) ∧ Mem w [own ncells 48 zz (rallN bs)] w' := by
  have ghb : Gv w b benc 1 bs := ⟨hb⟩
  refine calls_of (args := [_]) Try.func35 rfl Try.ntmps35 rfl ?_
  change Cw _ _ _ _ _ [(0, b.val)] []
  refine cw_seq ?_
  refine cw_region ?_
  refine sq_alloc1 (z := Sv.none.val) rfl fun b2 => ?_
  refine sq_alloc1 (z := .int .i64 0) rfl fun b3 => ?_
  refine sq_nil ?_
  refine ex_then ?_
  refine cw_seq ?_
  refine cw_seq ?_
  refine cw_region ?_
  refine sq_r (ry_move rfl) ?_
  refine sq_r (ry_lenH rfl) ?_
  refine sq_r (ry_remn (p := bs.length) (q := 80) rfl rfl rfl rfl (by omega)) ?_
  refine sq_r (ry_int rfl rfl rfl) ?_
  refine sq_r (ry_move rfl) ?_
  refine sq_gf rfl rfl rfl (fun hg => (Ry.yl (ry_move rfl))) ?_
  refine sq_gf rfl rfl rfl (fun hg => (Ry.yl (ry_lenH (ev_c hg rfl)))) ?_
  refine sq_gf rfl rfl rfl (fun hg => (Ry.yl (ry_int (ev_c hg rfl) rfl rfl))) ?_
  refine sq_r (ry_or rfl rfl rfl) ?_
  refine sq_nil ?_
  refine ex_then ?_
  refine cw_cond rfl (fun h0 => ?_) (fun h0 => ?_)
  · try simp only [bz0, bz1, bz2, bz3, bz4, bz5, bz6, bz7, bz8, bz9] at h0
    obtain ⟨hr1, hr2⟩ := rall_bad (xs := bs) (by omega)
    refine cw_seq ?_
    refine cw_region ?_
    refine sq_store1 (v := Sv.none.val) (by first | rfl | exact Sv.one _) rfl rfl ?_
    refine sq_store1 (by first | rfl | exact Sv.one _) rfl rfl ?_
    refine sq_nil ?_
    refine ex_then ?_
    refine cw_ret ?_
    refine ex_pass_ret ?_
    refine ex_ret (.inl rfl) (res_2 rfl (rv_one rfl rfl) (rv_one rfl rfl)) (fun w1 hw => ?_)
    exact ⟨Sv.none, by rw [hr1]; rfl, trivial, by rw [hr2]; exact (Keep.mem hw : Mem w [] _).nilOwn ncells 48⟩
  · try simp only [bz0, bz1, bz2, bz3, bz4, bz5, bz6, bz7, bz8, bz9] at h0
    have hg : ¬ (bs.length % 80 ≠ 0 ∨ 40960 < bs.length) := by omega
    refine cw_skip ?_
    refine ex_then ?_
    refine cw_seq ?_
    refine cw_region ?_
    refine sq_r (ry_move rfl) ?_
    refine sq_r (ry_lenH rfl) ?_
    refine sq_r (ry_quo rfl rfl (by omega) (by omega)) ?_
    refine sq_makeS (enc := ncells) (n := 0) (cap := (bs.length / 80)) Nd.zero rfl rfl rfl rfl rfl (by omega) (by omega) (by omega) fun b21 => ?_
    refine sq_alloc1 (z := Sv.none.val) rfl fun b4 => ?_
    refine sq_store1 (by first | rfl | exact Sv.one _) rfl rfl ?_
    refine sq_nil ?_
    refine ex_then ?_
    refine cw_seq ?_
    refine cw_seq ?_
    refine cw_region ?_
    refine sq_r (ry_move rfl) ?_
    refine sq_callC rfl trivial fun x23 hp23 => ?_
    refine sq_nil ?_
    refine ex_then ?_
    refine cw_block ?_
    refine cw_rangeFunc (vals := fun k => [.int .i64 (k : Nat), (b.sub 1 (k * 80) ((k + 1) * 80)).val]) (m := (bs.length / 80)) (X := Sv) (Y := Unit) rfl (parts1_it (c := 80) (by decide) rfl) (fun _ => rfl) (by decide) (envI := [(4, .pointer (some ⟨b4, 0, none⟩)), (2, .pointer (some ⟨b2, 0, none⟩)), (3, .pointer (some ⟨b3, 0, none⟩)), (23, .func (.func 53) #[] #[.pointer (some ⟨x23.1, 0, none⟩), .pointer (some ⟨x23.2, 0, none⟩)])]) (Sub.cons rfl (Sub.cons rfl (Sub.cons rfl (Sub.cons rfl (Sub.nil _))))) (fun k zz => [blk b4 #[zz.val] 27, own ncells 48 zz (readAllL bs k), blk x23.1 #[b.val] 49, blk x23.2 #[.int .i64 (80 : Nat)] 3, blk b2 #[Sv.none.val] 27, blk b3 #[.int .i64 0] 30]) (fun k zz => okParts bs k = true) ⟨false, b21, 0, 0, bs.length / 80, none⟩ rfl (fun w hw => (Keep.mem hw : Mem _ [blk b4 #[(⟨false, b21, 0, 0, bs.length / 80, none⟩ : Sv).val] 27, own ncells 48 ⟨false, b21, 0, 0, bs.length / 80, none⟩ (List.replicate 0 Nd.zero), blk x23.1 #[b.val] 49, blk x23.2 #[.int .i64 (80 : Nat)] 3, blk b2 #[Sv.none.val] 27, blk b3 #[.int .i64 0] 30] _)) (fun k zz w hI hw => ⟨(hw.cell (inferInstance : Has _ x23.1 _ _ _).h 0).trans rfl, (hw.cell (inferInstance : Has _ x23.2 _ _ _).h 0).trans rfl, hb.mono hw.below⟩) (fun yy => [blk b2 #[Sv.none.val] 27, blk b3 #[.int .i64 2] 30]) (fun yy => okParts bs (bs.length / 80) = false) ?_ ?_ ?_
    · rintro lr k s1 r0 hk hI
      have rg : Rg (k * 80) ((k + 1) * 80) bs.length := ⟨by omega, by omega⟩
      have hrl := readAll_length bs k
      change Cw _ _ _ _ _ [(25, (b.sub 1 (k * 80) ((k + 1) * 80)).val), (24, .int .i64 (k : Nat)), (4, .pointer (some ⟨b4, 0, none⟩)), (2, .pointer (some ⟨b2, 0, none⟩)), (3, .pointer (some ⟨b3, 0, none⟩)), (23, .func (.func 53) #[] #[.pointer (some ⟨x23.1, 0, none⟩), .pointer (some ⟨x23.2, 0, none⟩)])] (r0 :: [blk b4 #[s1.val] 27, own ncells 48 s1 (readAllL bs k), blk x23.1 #[b.val] 49, blk x23.2 #[.int .i64 (80 : Nat)] 3, blk b2 #[Sv.none.val] 27, blk b3 #[.int .i64 0] 30])
      refine cw_region ?_
      refine sq_r (ry_assign rfl) ?_
      refine sq_nil ?_
      refine ex_assigned [blk b4 #[s1.val] 27, own ncells 48 s1 (readAllL bs k), blk x23.1 #[b.val] 49, blk x23.2 #[.int .i64 (80 : Nat)] 3, blk b2 #[Sv.none.val] 27, blk b3 #[.int .i64 0] 30] (fun w hw => Keep.mem hw) fun r1 => ?_
      refine cw_block ?_
      refine cw_seq ?_
      refine cw_region ?_
      refine sq_r (ry_move rfl) ?_
      refine sq_y (yl_callC rfl trivial) ?_
      refine sq_r (ry_move rfl) ?_
      refine sq_r (ry_extract (v := .agg (ncells (readN ((bs.drop (k * 80)).take ((k + 1) * 80 - k * 80))))) rfl rfl) ?_
      refine sq_r (ry_extract (v := .int .i64 (readE ((bs.drop (k * 80)).take ((k + 1) * 80 - k * 80)))) rfl rfl) ?_
      refine sq_allocA fun b7 => ?_
      refine sq_storeW rfl rfl ?_
      refine sq_r (ry_assign rfl) ?_
      refine sq_nil ?_
      refine ex_then ?_
      refine cw_seq ?_
      refine cw_seq ?_
      refine cw_region ?_
      refine sq_r (ry_move rfl) ?_
      refine sq_r (ry_int rfl rfl rfl) ?_
      refine sq_nil ?_
      refine ex_then ?_
      refine cw_cond rfl (fun h1 => ?_) (fun h1 => ?_)
      · try simp only [bz0, bz1, bz2, bz3, bz4, bz5, bz6, bz7, bz8, bz9] at h1
        obtain ⟨q1, q2, q3⟩ | ⟨q1, q2, q3⟩ := readE_80 (part80_length hk); (exact absurd q1 (by rw [part80_eq] at h1; exact h1))
        refine cw_seq ?_
        refine cw_region ?_
        refine sq_r (ry_move rfl) ?_
        refine sq_store1 (v := Sv.none.val) (by first | rfl | exact Sv.one _) rfl rfl ?_
        refine sq_store1 (by first | rfl | exact Sv.one _) rfl rfl ?_
        refine sq_nil ?_
        refine ex_then ?_
        refine cw_ret ?_
        refine ex_pass_ret ?_
        refine ex_block_ret ?_
        exact ex_roundRet () (okParts_no hk q3) (fun w hw => by rw [part80_eq, q1] at hw; exact Keep.mem hw)
      · try simp only [bz0, bz1, bz2, bz3, bz4, bz5, bz6, bz7, bz8, bz9] at h1
        obtain ⟨q1, q2, q3⟩ | ⟨q1, q2, q3⟩ := readE_80 (part80_length hk); rotate_left; (exact absurd (by rw [part80_eq] at h1; exact h1) (by rw [q1]; decide))
        refine cw_skip ?_
        refine ex_then ?_
        refine cw_region ?_
        refine sq_r (ry_cellc rfl) ?_
        refine sq_r (ry_whole rfl) ?_
        refine sq_buildSlice (enc := ncells) (vals := [_]) [(readN ((bs.drop (k * 80)).take ((k + 1) * 80 - k * 80)))] rfl rfl rfl (by decide) (by decide) fun b36 => ?_
        refine sq_append (s := s1) (ys := [(readN ((bs.drop (k * 80)).take ((k + 1) * 80 - k * 80)))]) rfl rfl (by decide) (fun w hw => src_rows (s := ⟨false, b36, 0, 1, 1, none⟩) Try.underlying27 (by decide) ((inferInstance : Hd _ _ ⟨false, b36, 0, 1, 1, none⟩ ncells 48 [(readN ((bs.drop (k * 80)).take ((k + 1) * 80 - k * 80)))]).h w hw)) (by simp only [List.length_append, List.length_cons, List.length_nil]; omega) (by simp only [List.length_append, List.length_cons, List.length_nil]; omega) fun s37 hs37 hl37 => ?_
        refine sq_store1 (by first | rfl | exact Sv.one _) rfl rfl ?_
        refine sq_nil ?_
        refine ex_block ?_
        exact ex_round s37 (by rw [okParts_succ, hI, q3]; rfl) (fun w hw => by rw [part80_eq, q2] at hw; rw [readAll_succ]; exact Keep.mem hw)
    · rintro D s1 hI
      obtain ⟨hr1, hr2⟩ := rall_ok hg hI
      refine ex_block ?_
      refine ex_then ?_
      refine cw_seq ?_
      refine cw_region ?_
      refine sq_r (ry_cellc rfl) ?_
      refine sq_store1 (by first | rfl | exact Sv.one _) rfl rfl ?_
      refine sq_store1 (by first | rfl | exact Sv.one _) rfl rfl ?_
      refine sq_nil ?_
      refine ex_then ?_
      refine cw_ret ?_
      refine ex_retM (.inl rfl) (res_2 rfl (rv_one rfl rfl) (rv_one rfl rfl)) (fun w1 hw => ?_)
      exact ⟨s1, by rw [hr1]; rfl, trivial, by rw [hr2]; exact Keep.mem hw⟩
    · rintro D ⟨⟩ hJ
      refine ex_block_ret ?_
      refine ex_pass_ret ?_
      refine ex_retM (.inl rfl) (res_2 rfl (rv_one rfl rfl) (rv_one rfl rfl)) (fun w1 hw => ?_)
      exact ⟨Sv.none, by rw [(rall_no hg hJ).1]; rfl, trivial, by rw [(rall_no hg hJ).2]; exact (Keep.mem hw : Mem w [] _).nilOwn ncells 48⟩
instance ndrall_i {w0 : World} {L : List Ent} {b : Sv} {bs : List UInt8} [hb : HdE w0 L benc 1 b bs] : FnC Try.prog 35 w0 L [b.val] (Sv) (fun zz => .tuple #[zz.val, .int .i64 (rallE bs)]) (fun zz => own ncells 48 zz (rallN bs) :: L) (fun zz => True) (True) := ⟨fun hp w hw => (ndrall_c w b bs (hb.h w hw)).mono fun e w' ⟨x, h1, h2, h3⟩ => ⟨x, h1, h2, hw.call h3⟩⟩

end Go.Proofs.Ytklhkejhndnhbaa

/- Rows opened to their cells: moved within a block, made longer in their room or anew. -/
namespace Go.Eng
open Go.RowKit

theorem over_cat {A X V : List Value} {o : Nat} (h : o = A.length) : over (A ++ X).toArray o V.toArray = (A ++ (V ++ X.drop V.length)).toArray := by
  subst h
  unfold over
  simp only [List.size_toArray, List.append_assoc]
  rw [List.take_left, List.drop_append]
  simp
section
variable {α : Type} {enc : α → Array Value} {c : Nat} {s : Sv} {xs : List α}
theorem flatR_app (xs ys : List α) : flatR enc (xs ++ ys) = flatR enc xs ++ flatR enc ys := by simp [flatR]
theorem row_cells [he : Enc enc c] (hc : 0 < c) {cs : Array Value} {o : Nat} (hsz : o + xs.length * c ≤ cs.size) (hr : ∀ i x, xs[i]? = some x → ∀ j, j < c → cs[o + i * c + j]? = (enc x)[j]?) :
    cs = (cs.toList.take o ++ (flatR enc xs ++ cs.toList.drop (o + xs.length * c))).toArray := by
  have key : (cs.toList.drop o).take (xs.length * c) = flatR enc xs := by
    refine List.ext_getElem? fun k => ?_
    rcases Nat.lt_or_ge k (xs.length * c) with hk | hk
    · rw [List.getElem?_take_of_lt hk, List.getElem?_drop, Array.getElem?_toList]
      have hd : k / c < xs.length := Nat.div_lt_of_lt_mul (by rwa [Nat.mul_comm])
      have hm := Nat.mod_lt k hc
      have e : k / c * c + k % c = k := by rw [Nat.mul_comm]; exact Nat.div_add_mod k c
      have h1 := hr (k / c) xs[k / c] (by simp [hd]) (k % c) hm
      have h2 := flatR_get (enc := enc) xs (k / c) xs[k / c] (by simp [hd]) (k % c) hm
      rw [e] at h2
      rw [h2, ← h1]; congr 1; omega
    · rw [List.getElem?_eq_none (by simp; omega), List.getElem?_eq_none (by rw [flatR_length]; omega)]
  apply Array.ext'
  simp only
  rw [← key, ← List.append_assoc, show o + xs.length * c = o + xs.length * c from rfl, ← List.drop_drop, List.append_assoc, List.take_append_drop, List.take_append_drop]
theorem min_l {a b : Nat} (h : a ≤ b) : a = Nat.min a b := (Nat.min_eq_left h).symm
theorem min_r {a b : Nat} (h : b ≤ a) : b = Nat.min a b := (Nat.min_eq_right h).symm
theorem set_set {L : List Ent} {i : Nat} {e e' : Ent} : (L.set i e).set i e' = L.set i e' := by simp

theorem own_open [he : Enc enc c] (hc : 1 < c) {w0 w : World} {L : List Ent} {i : Nat} (hw : Mem w0 L w) (hi : L[i]? = some (own enc c s xs)) (hn : s.nil = false) :
    ∃ pre mid T, pre.length = s.o ∧ s.o + s.cap * c ≤ pre.length + (xs.length * c + mid.length) ∧ s.sp = none ∧ s.Ok ∧ s.len = xs.length ∧ Mem w0 (L.set i (blk s.b (pre ++ (flatR enc xs ++ mid)).toArray T)) w := by
  obtain ⟨r, hrow⟩ := hw.get hi
  obtain ⟨hsp, cs, T, fz, hblk, hsz, hfz, hf0⟩ := hrow hn
  obtain rfl := hf0 hc
  have hle := r.ok.le
  have hlen := r.len
  have hm : xs.length * c ≤ s.cap * c := Nat.mul_le_mul_right _ (by omega)
  have e := row_cells (enc := enc) (c := c) (xs := xs) (cs := cs) (o := s.o) (by omega) (by omega) fun i x hx j hj => by
    rw [← r.row i x hx j hj]; unfold cellH; rw [hblk]
  refine ⟨cs.toList.take s.o, cs.toList.drop (s.o + xs.length * c), T, by simp; omega, by simp; omega, hsp, r.ok, hlen, ?_⟩
  rw [← e]
  exact hw.change hi (fun k (hk : k = s.b) => ⟨hn, hk⟩) (fun _ _ => rfl) rfl ⟨rfl, rfl, rfl⟩ hblk
theorem own_shut [he : Enc enc c] {w0 w : World} {L : List Ent} {i b : Nat} {pre mid : List Value} {T : TypeId} (hw : Mem w0 L w) (hi : L[i]? = some (blk b (pre ++ (flatR enc xs ++ mid)).toArray T)) (s' : Sv) (hok : s'.Ok) (hn : s'.nil = false) (hb : s'.b = b) (hsp : s'.sp = none) (ho : s'.o = pre.length) (hl : s'.len = xs.length)
    (hcap : s'.o + s'.cap * c ≤ pre.length + (xs.length * c + mid.length)) : Mem w0 (L.set i (own enc c s' xs)) w := by
  subst hb
  have hblk : hp w s'.b = some (.cells (pre ++ (flatR enc xs ++ mid)).toArray T (0, 0)) := hw.block hi
  refine hw.change hi (fun k hk => hk.2) (fun _ _ => rfl) rfl ⟨rfl, rfl, rfl⟩ ⟨rows_of hok hl hblk fun k y hy j hj => ?_, fun _ => ⟨hsp, _, _, _, hblk, by simp [flatR_length]; omega, free_00 _, fun _ => rfl⟩⟩
  have hlt : k * c + j < (flatR enc xs).length := by
    rw [flatR_length]
    have h1 := (List.getElem?_eq_some_iff.1 hy).1
    calc k * c + j < k * c + c := by omega
      _ = (k + 1) * c := by rw [Nat.add_mul]; omega
      _ ≤ _ := Nat.mul_le_mul_right _ h1
  rw [List.getElem?_toArray, List.getElem?_append_right (by omega), List.getElem?_append_left (by omega), ← flatR_get (enc := enc) xs k y hy j hj]
  congr 1; omega
theorem Sv.sub_o {lo hi : Nat} (h : lo < s.cap) : (s.sub c lo hi).o = s.o + lo * c := by simp only [Sv.sub]; rw [if_neg (by omega)]
theorem Sv.sub_0 {hi : Nat} : (s.sub c 0 hi).o = s.o := by simp only [Sv.sub]; split <;> simp
theorem Sv.sub_eq {hi : Nat} (hn : s.nil = false) (hsp : s.sp = .none) : s.sub c 0 hi = ⟨false, s.b, s.o, hi, s.cap, .none⟩ := by
  have h0 := Sv.sub_0 (s := s) (c := c) (hi := hi)
  obtain ⟨sn, sb, so, sl, sc, ss⟩ := s
  simp only [Sv.sub] at h0 hn hsp ⊢
  subst hn hsp
  rw [h0]; rfl
end

section
variable {P : Program} {N : Fra} {w0 : World} {env : Env} {L : List Ent} {Q : Exit → Act → World → Prop} {l rest : List Oper} {d : Option Tmp} {ty : TypeId} {ps : String} {af : Array Edge} {gd : Option (Nat × Bool)} {K : Value → List Ent → Prop}
variable {α : Type} {enc : α → Array Value} {c : Nat} {s : Sv} {xs : List α}
theorem blk_cells {w : World} {pre A mid : List Value} {T : TypeId} {b o : Nat} {L' : List Ent} (hw : Mem w0 (blk b (pre ++ (A ++ mid)).toArray T :: L') w) (ho : pre.length = o) {j : Nat} {u : Value} (hj : A[j]? = some u) : w.cell? ⟨b, o + j, none⟩ = some u := by
  have hjl := (List.getElem?_eq_some_iff.1 hj).1
  have h0 : (blk b (pre ++ (A ++ mid)).toArray T :: L')[0]? = some (blk b (pre ++ (A ++ mid)).toArray T) := rfl
  rw [hw.cell h0, List.getElem?_toArray, List.getElem?_append_right (by omega), List.getElem?_append_left (by omega), ← hj]
  congr 1; omega
theorem cw_open {code : Code} [he : Enc enc c] {i : Nat} (q : Owns L s enc c xs i) (hc : 1 < c) (hn : 0 < xs.length) {L' : List Value → List Value → TypeId → List Ent} [hu : ∀ pre mid T, Upd L i (blk s.b (pre ++ (flatR enc xs ++ mid)).toArray T) (L' pre mid T)]
    (h : ∀ pre mid T, pre.length = s.o → s.o + s.cap * c ≤ pre.length + (xs.length * c + mid.length) → s.nil = false → s.sp = none → s.Ok → s.len = xs.length → Cw P N w0 Q code env (L' pre mid T)) : Cw P N w0 Q code env L := fun a w ha hw => by
  have hnil := (hw.get q.h).1.some hn
  obtain ⟨pre, mid, T, h1, h2, h3, h4, h5, h6⟩ := own_open hc hw q.h hnil
  rw [(hu pre mid T).h] at h6
  exact h pre mid T h1 h2 hnil h3 h4 h5 a w ha h6
theorem cw_owned {code : Code} {i : Nat} (q : Owns L s enc c xs i) (hn : 0 < xs.length) (h : s.nil = false → s.sp = none → s.Ok → s.len = xs.length → Cw P N w0 Q code env L) : Cw P N w0 Q code env L := fun a w ha hw => by
  obtain ⟨r, hrow⟩ := hw.get q.h
  have hnil := r.some hn
  exact h hnil (hrow hnil).1 r.ok r.len a w ha hw
theorem own_cells [he : Enc enc c] (hc : 0 < c) {i : Nat} (q : Owns L s enc c xs i) {w : World} (hw : Mem w0 L w) {j : Nat} {v : Value} (hj : (flatR enc xs)[j]? = some v) : w.cell? ⟨s.b, s.o + j, none⟩ = some v := by
  obtain ⟨x, hx, hv⟩ := flatR_div hc hj
  have r := (hw.get q.h).1
  rw [cell_hp, ← hv, ← r.row _ x hx (j % c) (Nat.mod_lt _ hc)]
  congr 1
  have := Nat.div_add_mod j c
  rw [Nat.mul_comm] at this; omega
theorem run_copy_rows (w : World) (dT sT ty elem : TypeId) (b o dLen dCap : Nat) (a : Addr) (sLen sCap n : Nat) (cur : Array Value) (t : TypeId) (vs : List Value)
    (hu : P.underlying dT = some (.slice elem)) (hs : (P.info? elem).map (·.size) = some c) (hg : w.heap[b]? = some (.cells cur t (0, 0))) (hn : n = Nat.min sLen dLen) (hv : vs.length = n * c)
    (hsrc : ∀ j v, vs[j]? = some v → w.cell? (a.add j) = some v) (hfit : o + vs.length ≤ cur.size) (h1 : ∀ v ∈ vs, v.oneCell' = true) :
    (Builtin.copy_ #[dT, sT] ty #[.slice (some ⟨b, o, none⟩) dLen dCap, .slice (some a) sLen sCap]).run P w = .ok (goInt n) (w.setRow b (over cur o vs.toArray)) := by
  have hl := run_loadCells_list (P := P) w a vs hsrc
  have hst := run_storeCells_at P b o t vs 0 cur w hg (by simpa using hfit) h1
  rw [hv] at hl
  cases hq : P.info? elem with
  | none => simp [hq] at hs
  | some i =>
    have hi : i.size = c := by simpa [hq] using hs
    simp [Builtin.copy_, run_underlying hu, Builtin.lenOf, Builtin.firstCells, sizeOf, typeInfo, hq, hi, ← hn, hl, hst, over]
theorem sq_copyB {D S : Sv} {x y : Operand} {tx tys e : TypeId} {i b o n : Nat} {cs : Array Value} {T : TypeId} {vs : List Value} (hx : ev env x = some D.val) (hy : ev env y = some S.val)
    (hDn : D.nil = false) (hDs : D.sp = none) (hDb : D.b = b) (hDo : D.o = o) (hSn : S.nil = false) (hSs : S.sp = none) [ht : SliceT P tx e c] [hh : Has L b cs T i] (hn : n = Nat.min S.len D.len) (hv : vs.length = n * c)
    (hsrc : ∀ w, Mem w0 L w → ∀ j v, vs[j]? = some v → w.cell? ⟨S.b, S.o + j, none⟩ = some v) (h1 : ∀ v ∈ vs, v.oneCell' = true) (ho : o + vs.length ≤ cs.size) {cs' : Array Value} {L' : List Ent} (hcs : over cs o vs.toArray = cs') [hu : Upd L i (blk b cs' T) L']
    (hk : Sq P N w0 l Q rest (putE env d (.int .i64 n)) L') (hd : dstOk N d = true := by rfl) :
    Sq P N w0 l Q (⟨d, .call { callee := .builtin .copy, args := #[x, y], argTypes := #[tx, tys] }, ty, ps, af, none⟩ :: rest) env L :=
  sq_run rfl hd fun aa w ha hw => by
    rw [Sv.val_some hDn, hDs, hDb, hDo] at hx
    rw [Sv.val_some hSn, hSs] at hy
    have hb := hw.block hh.h
    have hrun := run_copy_rows (P := P) w tx tys ty e b o D.len D.cap ⟨S.b, S.o, none⟩ S.len S.cap n cs T vs ht.und ht.size hb hn hv (fun j v hj => by rw [Addr.add_none]; exact hsrc w hw j v hj) ho h1
    refine ⟨_, _, _, ?_, by rw [← hu.h, ← hcs]; exact hw.setRow hh.h _, hk⟩
    simp [execOp, ha.ev hx, ha.ev hy, resolve, invoke, builtin, hrun, Result.andThen, goInt]
theorem st_copyB {D S : Sv} {x y : Operand} {tx tys e : TypeId} {i b o n : Nat} {cs : Array Value} {T : TypeId} {vs : List Value} (hx : ev env x = some D.val) (hy : ev env y = some S.val)
    (hDn : D.nil = false) (hDs : D.sp = none) (hDb : D.b = b) (hDo : D.o = o) (hSn : S.nil = false) (hSs : S.sp = none) [ht : SliceT P tx e c] [hh : Has L b cs T i] (hn : n = Nat.min S.len D.len) (hv : vs.length = n * c)
    (hsrc : ∀ w, Mem w0 L w → ∀ j v, vs[j]? = some v → w.cell? ⟨S.b, S.o + j, none⟩ = some v) (h1 : ∀ v ∈ vs, v.oneCell' = true) (ho : o + vs.length ≤ cs.size) {cs' : Array Value} {L' : List Ent} (hcs : over cs o vs.toArray = cs') [hu : Upd L i (blk b cs' T) L']
    (hk : K (.int .i64 n) L') :
    Stp P N w0 env L ⟨d, .call { callee := .builtin .copy, args := #[x, y], argTypes := #[tx, tys] }, ty, ps, af, none⟩ K :=
  st_run fun aa w ha hw => by
    rw [Sv.val_some hDn, hDs, hDb, hDo] at hx
    rw [Sv.val_some hSn, hSs] at hy
    have hb := hw.block hh.h
    have hrun := run_copy_rows (P := P) w tx tys ty e b o D.len D.cap ⟨S.b, S.o, none⟩ S.len S.cap n cs T vs ht.und ht.size hb hn hv (fun j v hj => by rw [Addr.add_none]; exact hsrc w hw j v hj) ho h1
    refine ⟨_, _, _, ?_, by rw [← hu.h, ← hcs]; exact hw.setRow hh.h _, hk⟩
    simp [execOp, ha.ev hx, ha.ev hy, resolve, invoke, builtin, hrun, Result.andThen, goInt]
theorem st_appendB {D S : Sv} {x y : Operand} {tx tys e e' : TypeId} {by' i b o n : Nat} {cs : Array Value} {T : TypeId} {vs : List Value} (hx : ev env x = some D.val) (hy : ev env y = some S.val)
    (hDn : D.nil = false) (hDs : D.sp = none) (hDb : D.b = b) (hDo : D.o + D.len * c = o) (hSn : S.nil = false) (hSs : S.sp = none) [ht : SlT P tx e c by'] (hts : P.underlying tys = some (.slice e')) [hh : Has L b cs T i] (hn : S.len = n) (hv : vs.length = n * c) (hroom : D.len + n ≤ D.cap)
    (hsrc : ∀ w, Mem w0 L w → ∀ j v, vs[j]? = some v → w.cell? ⟨S.b, S.o + j, none⟩ = some v) (h1 : ∀ v ∈ vs, v.oneCell' = true) (ho : o + vs.length ≤ cs.size) {cs' : Array Value} {L' : List Ent} (hcs : over cs o vs.toArray = cs') [hu : Upd L i (blk b cs' T) L']
    {R : Sv} (hR : R = ⟨false, b, D.o, D.len + n, D.cap, none⟩) (hk : K R.val L') :
    Stp P N w0 env L ⟨d, .call { callee := .builtin .append, args := #[x, y], argTypes := #[tx, tys] }, ty, ps, af, none⟩ K :=
  st_run fun aa w ha hw => by
    subst hR hDo hDb
    rw [Sv.val_some hDn, hDs] at hx
    rw [Sv.val_some hSn, hSs, hn] at hy
    have hb := hw.block hh.h
    obtain ⟨i', z, hi1, hi2, hi3, hi4, hzc⟩ := ht.info
    have hs := Src.ofSlice (P := P) (size := c) w hts ⟨S.b, S.o, none⟩ n S.cap vs hv (fun j v hj => by rw [Addr.add_none]; exact hsrc w hw j v hj) h1
    have hst := run_storeCells_at P D.b (D.o + D.len * c) T vs 0 cs w hb (by simpa using ho) h1
    have hrun : (Builtin.append_ #[tx, tys] ty #[.slice (some ⟨D.b, D.o, none⟩) D.len D.cap, .slice (some ⟨S.b, S.o, none⟩) n S.cap]).run P w = .ok (.slice (some ⟨D.b, D.o, none⟩) (D.len + n) D.cap) (w.setRow D.b (over cs (D.o + D.len * c) vs.toArray)) := by
      subst hi3
      rcases hs.kind with ⟨e', hk⟩ | hk <;> simp [Builtin.append_, run_underlying ht.und, run_underlying hk, sizeOf, typeInfo, hi1, hs.len, hroom, hs.cells, Addr.add_none, hst, over]
    refine ⟨_, _, _, ?_, by rw [← hu.h, ← hcs]; exact hw.setRow hh.h _, hk⟩
    simp [execOp, ha.ev hx, ha.ev hy, resolve, invoke, builtin, hrun, Result.andThen, Sv.val]
theorem sq_appendB {D S : Sv} {x y : Operand} {tx tys e e' : TypeId} {by' i b o n : Nat} {cs : Array Value} {T : TypeId} {vs : List Value} (hx : ev env x = some D.val) (hy : ev env y = some S.val)
    (hDn : D.nil = false) (hDs : D.sp = none) (hDb : D.b = b) (hDo : D.o + D.len * c = o) (hSn : S.nil = false) (hSs : S.sp = none) [ht : SlT P tx e c by'] (hts : P.underlying tys = some (.slice e')) [hh : Has L b cs T i] (hn : S.len = n) (hv : vs.length = n * c) (hroom : D.len + n ≤ D.cap)
    (hsrc : ∀ w, Mem w0 L w → ∀ j v, vs[j]? = some v → w.cell? ⟨S.b, S.o + j, none⟩ = some v) (h1 : ∀ v ∈ vs, v.oneCell' = true) (ho : o + vs.length ≤ cs.size) {cs' : Array Value} {L' : List Ent} (hcs : over cs o vs.toArray = cs') [hu : Upd L i (blk b cs' T) L']
    {R : Sv} (hR : R = ⟨false, b, D.o, D.len + n, D.cap, none⟩) (hk : Sq P N w0 l Q rest (putE env d R.val) L') (hd : dstOk N d = true := by rfl) :
    Sq P N w0 l Q (⟨d, .call { callee := .builtin .append, args := #[x, y], argTypes := #[tx, tys] }, ty, ps, af, none⟩ :: rest) env L :=
  sq_run rfl hd fun aa w ha hw => by
    subst hR hDo hDb
    rw [Sv.val_some hDn, hDs] at hx
    rw [Sv.val_some hSn, hSs, hn] at hy
    have hb := hw.block hh.h
    obtain ⟨i', z, hi1, hi2, hi3, hi4, hzc⟩ := ht.info
    have hs := Src.ofSlice (P := P) (size := c) w hts ⟨S.b, S.o, none⟩ n S.cap vs hv (fun j v hj => by rw [Addr.add_none]; exact hsrc w hw j v hj) h1
    have hst := run_storeCells_at P D.b (D.o + D.len * c) T vs 0 cs w hb (by simpa using ho) h1
    have hrun : (Builtin.append_ #[tx, tys] ty #[.slice (some ⟨D.b, D.o, none⟩) D.len D.cap, .slice (some ⟨S.b, S.o, none⟩) n S.cap]).run P w = .ok (.slice (some ⟨D.b, D.o, none⟩) (D.len + n) D.cap) (w.setRow D.b (over cs (D.o + D.len * c) vs.toArray)) := by
      subst hi3
      rcases hs.kind with ⟨e', hk⟩ | hk <;> simp [Builtin.append_, run_underlying ht.und, run_underlying hk, sizeOf, typeInfo, hi1, hs.len, hroom, hs.cells, Addr.add_none, hst, over]
    refine ⟨_, _, _, ?_, by rw [← hu.h, ← hcs]; exact hw.setRow hh.h _, hk⟩
    simp [execOp, ha.ev hx, ha.ev hy, resolve, invoke, builtin, hrun, Result.andThen, Sv.val]
theorem sq_appendZ {D : Sv} {x y : Operand} {tx tys e : TypeId} {by' k : Nat} {z : Value} {olds : List Value} {kn kq : IntKind} {iy : Int} {p m : Nat} (hp : D.len = p) (hm : p + k = m) (hx : ev env x = some D.val) (hy : ev env y = some (.int kq iy)) (hk0 : iy = (k : Int)) (h0 : 0 < k)
    (hDn : D.nil = false) (hDs : D.sp = none) [ht : SlT P tx e c by'] (hc : 0 < c) [hz : ZeroT P e z] (htn : P.underlying tys = some (.int kn)) (holds : olds.length = D.len * c) (hsrc : ∀ w, Mem w0 L w → ∀ j v, olds[j]? = some v → w.cell? ⟨D.b, D.o + j, none⟩ = some v)
    (hg : D.cap < D.len + k) (hb : (D.len + k) * by' ≤ 140737488355328) (h63 : D.len + k ≤ 140737488355328)
    (hk : ∀ (b C : Nat) (Z : List Value), m ≤ C → p * c + Z.length = C * c → Sq P N w0 l Q rest (putE env d (Sv.val ⟨false, b, 0, m, C, none⟩)) (blk b (olds ++ Z).toArray e :: L)) (hd : dstOk N d = true := by rfl) :
    Sq P N w0 l Q (⟨d, .call { callee := .builtin .append, args := #[x, y], argTypes := #[tx, tys] }, ty, ps, af, none⟩ :: rest) env L :=
  sq_run rfl hd fun aa w ha hw => by
    subst hk0 hp hm
    rw [Sv.val_some hDn, hDs] at hx
    obtain ⟨i', z', hi1, hi2, hi3, hi4, hzc⟩ := ht.info
    subst hi3 hi4
    have hcap := nextslicecap_le hg
    have hfit : Builtin.nextslicecap (D.len + k) D.cap * i'.bytes ≤ 281474976710656 := by
      have h2 : Builtin.nextslicecap (D.len + k) D.cap * i'.bytes ≤ 2 * (D.len + k) * i'.bytes := Nat.mul_le_mul_right _ hcap
      rw [Nat.mul_assoc] at h2
      omega
    have h48 : k * i'.bytes ≤ 281474976710656 := by
      have : k * i'.bytes ≤ (D.len + k) * i'.bytes := Nat.mul_le_mul_right _ (by omega)
      omega
    have hold := run_firstCells_some (P := P) w.drew i'.size D.len ⟨D.b, D.o, none⟩ D.len D.cap olds holds (fun j v hj => by rw [Addr.add_none]; exact hsrc w hw j v hj)
    have hrun := Lib.run_append_grow_zeros (P := P) w tx tys ty e i' z' kq kn ht.und htn hi1 hi2 (some ⟨D.b, D.o, none⟩) D.len D.cap olds hold k h0 hc hg (by omega) h48 hfit
    have hcge := grownCap_ge w (D.len + k) D.cap e
    generalize grownCap w (D.len + k) D.cap e = C at hrun hcge
    have hZ1 := size_zeroCells z'.cells k
    have hZ2 := size_zeroCells z'.cells (C - (D.len + k))
    rw [hzc] at hZ1 hZ2
    have hZ : D.len * i'.size + (Builtin.zeroCells z'.cells k ++ Builtin.zeroCells z'.cells (C - (D.len + k))).toList.length = C * i'.size := by
      rw [Array.length_toList, Array.size_append, hZ1, hZ2, ← Nat.add_mul, ← Nat.add_mul]; congr 1; omega
    have e1 : olds.toArray ++ Builtin.zeroCells z'.cells k ++ Builtin.zeroCells z'.cells (C - (D.len + k)) = (olds ++ (Builtin.zeroCells z'.cells k ++ Builtin.zeroCells z'.cells (C - (D.len + k))).toList).toArray := by apply Array.ext'; simp
    rw [e1] at hrun
    refine ⟨_, _, _, ?_, hw.drew.alloc _ e, hk w.heap.size C _ hcge hZ⟩
    simp [execOp, ha.ev hx, ha.ev hy, resolve, invoke, builtin, hrun, Result.andThen, Sv.val]
theorem sq_clearB {D : Sv} {x : Operand} {tx e : TypeId} {by' i b o n : Nat} {z : Value} {cs : Array Value} {T : TypeId} (hx : ev env x = some D.val) (hDn : D.nil = false) (hDs : D.sp = none) (hDb : D.b = b) (hDo : D.o = o) (hn : D.len = n) (h0 : 0 < n) [ht : SlT P tx e c by'] [hz : ZeroT P e z] (h1 : z.cells.all (·.oneCell') = true) [hh : Has L b cs T i] (ho : o + n * c ≤ cs.size)
    {L' : List Value → List Ent} [hu : ∀ Z, Upd L i (blk b (over cs o Z.toArray) T) (L' Z)] (hk : ∀ Z : List Value, Z.length = n * c → Sq P N w0 l Q rest env (L' Z)) :
    Sq P N w0 l Q (⟨none, .call { callee := .builtin .clear, args := #[x], argTypes := #[tx] }, ty, ps, af, none⟩ :: rest) env L :=
  sq_run rfl rfl fun aa w ha hw => by
    rw [Sv.val_some hDn, hDs, hDb, hDo, hn] at hx
    have hb := hw.block hh.h
    obtain ⟨i', z', hi1, hi2, hi3, hi4, hzc⟩ := ht.info
    obtain rfl : z' = z := by
      have := hz.zero
      rw [hi1, Option.map_some, hi2] at this; exact Option.some.inj (Option.some.inj this)
    subst hi3
    have hZ := size_zeroCells z'.cells n
    rw [hzc] at hZ
    have hone : ∀ v ∈ (Builtin.zeroCells z'.cells n).toList, v.oneCell' = true := fun v hv => by
      simp only [Builtin.zeroCells, Array.toList_map, List.mem_map] at hv
      obtain ⟨j, hj, rfl⟩ := hv
      have h0' : 0 < z'.cells.size := by
        rcases Nat.eq_zero_or_pos z'.cells.size with h | h
        · rw [h] at hj; simp at hj
        · exact h
      rw [getElem!_pos z'.cells _ (Nat.mod_lt _ h0')]
      exact (Array.all_eq_true_iff_forall_mem.1 h1) _ (Array.getElem_mem _)
    have hst := run_storeCells_at P b o T (Builtin.zeroCells z'.cells n).toList 0 cs w hb (by simp [hZ]; omega) hone
    have hrun : (Builtin.clear_ #[tx] ty #[.slice (some ⟨b, o, none⟩) n D.cap]).run P w = .ok (.tuple #[]) (w.setRow b (over cs o (Builtin.zeroCells z'.cells n))) := by
      obtain ⟨m, rfl⟩ : ∃ m, n = m + 1 := ⟨n - 1, by omega⟩
      simp [Builtin.clear_, run_underlying ht.und, zeroValue, typeInfo, hi1, hi2, hst, over]
    refine ⟨.tuple #[], w.setRow b (over cs o (Builtin.zeroCells z'.cells n)), L' (Builtin.zeroCells z'.cells n).toList, ?_, ?_, hk _ (by rw [Array.length_toList, hZ])⟩
    · simp [execOp, ha.ev hx, resolve, invoke, builtin, hrun, Result.andThen]
    · have h9 := hw.setRow hh.h (over cs o (Builtin.zeroCells z'.cells n))
      rw [← (hu _).h]
      simpa using h9
def Sv.top (s : Sv) (m : Nat) : Sv := ⟨s.nil, s.b, s.o, s.len, m, s.sp⟩
theorem ry_subH3 {t e : TypeId} {x lo hi mx : Operand} {l h m : Nat} {k k' k'' : IntKind} {il ih im : Int} [ht : SliceT P t e c] (hx : ev env x = some s.val) [q : Hd w0 L s enc c xs] (hl : ev env lo = some (.int k il)) (hh : ev env hi = some (.int k' ih)) (hm : ev env mx = some (.int k'' im)) (el : il = (l : Int)) (eh : ih = (h : Int)) (em : im = (m : Int)) (h1 : l ≤ h) (h2 : h ≤ m) (h3 : m ≤ xs.length) :
    Ry P N w0 env L ⟨d, .slice t x (some lo) (some hi) (some mx), ty, ps, af, gd⟩ ((s.top m).sub c l h).val := fun a w ha hw => by
  subst el eh em
  have r := q.h w hw
  have hs := r.ok
  have hlen := r.len
  have hle := hs.le
  have ee := elem_of ht.und
  have hu : P.underlying t = some (.slice (P.elem t)) := by rw [ee]; exact ht.und
  obtain ⟨ad, len, cap, ev'⟩ := s.ex
  have e3 : len = s.len ∧ cap = s.cap ∧ sliced ad l h m c = ((s.top m).sub c l h).val := by
    cases hn : s.nil with
    | true =>
      rw [Sv.val_nil hn] at ev'
      obtain ⟨rfl, rfl, rfl⟩ := by simpa using ev'
      have := hs.nil hn
      have e2 : ((s.top m).sub c l h).nil = true := hn
      rw [Sv.val_nil e2]
      have : l = 0 := by omega
      have : h = 0 := by omega
      have : m = 0 := by omega
      subst l h m
      exact ⟨by omega, by omega, by simp [sliced]⟩
    | false =>
      rw [Sv.val_some hn] at ev'
      obtain ⟨rfl, rfl, rfl⟩ := by simpa using ev'
      have e2 : ((s.top m).sub c l h).nil = false := hn
      rw [Sv.val_some e2]
      refine ⟨rfl, rfl, ?_⟩
      simp only [sliced, Sv.sub, Sv.top]
      by_cases hc : m = l
      · simp [hc]
      · have hsp := hs.sp (by omega)
        simp [hc, hsp, Addr.add_none]
  obtain ⟨e1, e2, e3⟩ := e3
  have hr := run_slice_lhm (P := P) (w := w) t ad len cap hu k k' k'' (l : Int) (h : Int) (m : Int) (by omega) (by omega) (by omega) (by omega)
  rw [ee, run_sizeOf' w ht.size] at hr
  simp only [Result.andThen, Int.toNat_natCast, e3] at hr
  simp only [execOp, ha.ev hx, ha.ev hl, ha.ev hh, ha.ev hm, ev', Option.map_some, run_sliceAt_slice (h := hu), hr, Sem.run_bind, Result.andThen, Sem.run_pure]
theorem ry_capSv {t e : TypeId} {x : Operand} {m n : Nat} [ht : SliceT P t e m] (hx : ev env x = some s.val) (hnil : s.nil = false) (hn : s.cap = n) :
    Ry P N w0 env L ⟨d, .call { callee := .builtin .cap, args := #[x], argTypes := #[t] }, ty, ps, af, gd⟩ (.int .i64 n) := fun a w ha _ => by
  subst hn
  rw [Sv.val_some hnil] at hx
  have hu : P.underlying t = some (.slice (P.elem t)) := by rw [elem_of ht.und]; exact ht.und
  have := run_cap_slice (P := P) (w := w) t ty (some ⟨s.b, s.o, s.sp⟩) s.len s.cap hu
  simp [execOp, ha.ev hx, resolve, invoke, builtin, this, Result.andThen, goInt]
class OvF (P : Program) (f : FuncId) (tS tR : outParam TypeId) : Prop where
  fn : ∃ fn, P.funcs[f]? = some fn ∧ (fn.name == "runtime.NumGoroutine") = false ∧ fn.body.isNone = true ∧ Extern.findNext fn = none ∧ Extern.find fn = some (Extern.SlicesOverlaps.overlaps #[tS, tS] #[tR])
theorem Mem.apart {w : World} {i j k : Nat} {e e' : Ent} (h : Mem w0 L w) (hi : L[i]? = some e) (hj : L[j]? = some e') (hij : i ≠ j) (hk : e.fp k) : ¬ e'.fp k := by
  obtain ⟨gi, rfl⟩ := List.getElem?_eq_some_iff.1 hi
  obtain ⟨gj, rfl⟩ := List.getElem?_eq_some_iff.1 hj
  have hd := List.pairwise_iff_getElem.1 h.dis
  rcases Nat.lt_or_gt_of_ne hij with h1 | h1
  · exact hd i j gi gj h1 k hk
  · exact fun h2 => hd j i gj gi h1 k h2 hk
theorem ry_overlaps {V D : Sv} {x y : Operand} {f : FuncId} {ts : Array TypeId} {tS tR e T : TypeId} {i j b : Nat} {cs : Array Value} (hx : ev env x = some V.val) (hy : ev env y = some D.val) [hf : OvF P f tS tR] [ht : SliceT P tS e c] (hc : 1 < c) [q : Owns L V enc c xs i] (hv : 0 < xs.length) [hh : Has L b cs T j] (hDn : D.nil = false) (hDs : D.sp = none) (hDb : D.b = b) (hcs : 0 < cs.size) (hij : i ≠ j := by decide) :
    Ry P N w0 env L ⟨d, .call { callee := .value (.func f), args := #[x, y], argTypes := ts }, ty, ps, af, gd⟩ (.bool false) := fun a w ha hw => by
  obtain ⟨r, hrow⟩ := hw.get q.h
  have hVn := r.some hv
  obtain ⟨hVs, cv, Tv, fz, hblk, hsz, hfz, hf0⟩ := hrow hVn
  obtain rfl := hf0 hc
  have hb := hw.block hh.h
  have hne : V.b ≠ b := fun e0 => hw.apart q.h hh.h hij (k := V.b) ⟨hVn, rfl⟩ e0
  subst hDb
  rw [Sv.val_some hVn, hVs] at hx
  rw [Sv.val_some hDn, hDs] at hy
  obtain ⟨fn, h1, h2, h3, h4, h5⟩ := hf.fn
  have hrun := Lib.run_overlaps_apart (P := P) w tS tR e ht.und c (fun w => run_sizeOf' w ht.size) ⟨V.b, V.o, none⟩ ⟨D.b, D.o, none⟩ V.len V.cap D.len D.cap hne Tv T cv.size cs.size (by simp [World.shape?, hblk]) (by simp [World.shape?, hb]) (by omega) (by simp [World.frozen?, hblk]) (by simp [World.frozen?, hblk])
  have hcall := run_callFunc_extern (P := P) h1 h2 h3 h4 h5 #[.slice (some ⟨V.b, V.o, none⟩) V.len V.cap, .slice (some ⟨D.b, D.o, none⟩) D.len D.cap] w
  rw [hrun] at hcall
  have e1 : a.eval (.func f) = .func (.func f) #[] #[] := rfl
  simp [execOp, ha.ev hx, ha.ev hy, resolve, e1, Deferred.ofValue, invoke, hcall, Result.andThen]
end
end Go.Eng

/- The sum of bytes: one byte changed is another sum. No program in sight. -/
namespace Go.Kb

def crcP : Nat := 3988292384
def crcT (n : Nat) : Nat := (n / 2) ^^^ (if n % 2 = 1 then crcP else 0)
theorem crcT_lt {n : Nat} (h : n < 2 ^ 32) : crcT n < 2 ^ 32 := by
  refine Nat.xor_lt_two_pow (by omega) ?_
  split
  · decide
  · decide
theorem crcT_bit {n : Nat} (h : n < 2 ^ 32) : (crcT n).testBit 31 = decide (n % 2 = 1) := by
  have h1 : (n / 2).testBit 31 = false := Nat.testBit_lt_two_pow (by omega)
  rw [crcT, Nat.testBit_xor, h1]
  by_cases e : n % 2 = 1
  · rw [if_pos e, decide_eq_true e]; decide
  · rw [if_neg e, decide_eq_false e]; decide
theorem crcT_inj {a b : Nat} (ha : a < 2 ^ 32) (hb : b < 2 ^ 32) (h : crcT a = crcT b) : a = b := by
  have h1 := crcT_bit ha
  rw [h, crcT_bit hb] at h1
  have h2 : a % 2 = b % 2 := by
    by_cases e : b % 2 = 1
    · rw [decide_eq_true e] at h1; have := of_decide_eq_true h1.symm; omega
    · rw [decide_eq_false e] at h1; have := of_decide_eq_false h1.symm; omega
  have h3 := congrArg (fun x => x ^^^ (if b % 2 = 1 then crcP else 0)) h
  simp only [crcT, h2, Nat.xor_assoc, Nat.xor_self, Nat.xor_zero] at h3
  omega
def crcN (n : Nat) : Nat → Nat
  | 0 => n
  | k + 1 => crcT (crcN n k)
theorem crcN_lt {n : Nat} (h : n < 2 ^ 32) : ∀ k, crcN n k < 2 ^ 32
  | 0 => h
  | k + 1 => crcT_lt (crcN_lt h k)
theorem crcN_inj {a b : Nat} (ha : a < 2 ^ 32) (hb : b < 2 ^ 32) : ∀ k, crcN a k = crcN b k → a = b
  | 0, h => h
  | k + 1, h => crcN_inj ha hb k (crcT_inj (crcN_lt ha k) (crcN_lt hb k) h)
def crcB (n : Nat) (b : UInt8) : Nat := crcN (n ^^^ b.toNat) 8
theorem crcB_lt {n : Nat} {b : UInt8} (h : n < 2 ^ 32) : crcB n b < 2 ^ 32 := crcN_lt (Nat.xor_lt_two_pow h (by have := b.toNat_lt; omega)) 8
theorem xor_cancel {a b c : Nat} (h : a ^^^ c = b ^^^ c) : a = b := by
  have := congrArg (fun x => x ^^^ c) h
  simpa only [Nat.xor_assoc, Nat.xor_self, Nat.xor_zero] using this
theorem crcB_inj {a b : Nat} {x : UInt8} (ha : a < 2 ^ 32) (hb : b < 2 ^ 32) (h : crcB a x = crcB b x) : a = b :=
  xor_cancel (crcN_inj (Nat.xor_lt_two_pow ha (by have := x.toNat_lt; omega)) (Nat.xor_lt_two_pow hb (by have := x.toNat_lt; omega)) 8 h)
theorem crcB_byte {a : Nat} {x y : UInt8} (ha : a < 2 ^ 32) (h : crcB a x = crcB a y) : x = y := by
  have := crcN_inj (Nat.xor_lt_two_pow ha (by have := x.toNat_lt; omega)) (Nat.xor_lt_two_pow ha (by have := y.toNat_lt; omega)) 8 h
  rw [Nat.xor_comm a, Nat.xor_comm a] at this
  exact UInt8.toNat_inj.1 (xor_cancel this)
def crcS (n : Nat) (l : List UInt8) : Nat := l.foldl crcB n
theorem crcS_lt {n : Nat} (h : n < 2 ^ 32) : ∀ l, crcS n l < 2 ^ 32
  | [] => h
  | b :: l => crcS_lt (crcB_lt h) l
theorem crcS_inj {a b : Nat} (ha : a < 2 ^ 32) (hb : b < 2 ^ 32) : ∀ l, crcS a l = crcS b l → a = b
  | [], h => h
  | x :: l, h => crcB_inj ha hb (crcS_inj (crcB_lt ha) (crcB_lt hb) l h)
theorem crcS_snoc {n : Nat} {l : List UInt8} {i : Nat} {b : UInt8} (h : l[i]? = some b) : crcS n (l.take (i + 1)) = crcB (crcS n (l.take i)) b := by
  rw [List.take_add_one, h, crcS, crcS, List.foldl_append]; rfl
def crc (l : List UInt8) : Nat := 4294967295 - crcS 4294967295 l
theorem crc_lt (l : List UInt8) : crc l < 2 ^ 32 := by unfold crc; omega
theorem crc_one {l : List UInt8} {i : Nat} {x y : UInt8} (hx : l[i]? = some x) (hne : x ≠ y) : crc (l.set i y) ≠ crc l := by
  have h0 : (4294967295 : Nat) < 2 ^ 32 := by decide
  obtain ⟨hi, hx'⟩ := List.getElem?_eq_some_iff.1 hx
  have e1 : l = l.take i ++ x :: l.drop (i + 1) := by rw [← hx', List.getElem_cons_drop, List.take_append_drop]
  have e2 : l.set i y = l.take i ++ y :: l.drop (i + 1) := by rw [List.set_eq_take_append_cons_drop, if_pos hi]
  intro h
  have k1 := crcS_lt h0 l
  have k2 := crcS_lt h0 (l.set i y)
  have h3 : crcS 4294967295 (l.set i y) = crcS 4294967295 l := by unfold crc at h; omega
  rw [e2] at h3
  rw [e1] at h3
  have h4 : crcS (crcB (crcS 4294967295 (l.take i)) y) (l.drop (i + 1)) = crcS (crcB (crcS 4294967295 (l.take i)) x) (l.drop (i + 1)) := by
    have := h3
    simp only [crcS, List.foldl_append, List.foldl_cons] at this ⊢
    rw [← e1] at this
    exact this
  have k3 := crcS_lt h0 (l.take i)
  exact hne (crcB_byte k3 (crcS_inj (crcB_lt k3) (crcB_lt k3) _ h4)).symm
end Go.Kb

/- A row told shorter; zero values behind the nil slice; a slice whose elements are known one by one. -/
namespace Go.Eng
open Go.RowKit
section
variable {α : Type} {enc : α → Array Value} {c : Nat} {s : Sv} {xs : List α}
theorem Mem.ownTake {w0 w : World} {L : List Ent} {i k : Nat} (hw : Mem w0 L w) (hi : L[i]? = some (own enc c s xs)) (hk : k ≤ xs.length) : Mem w0 (L.set i (own enc c (s.sub c 0 k) (xs.take k))) w := by
  obtain ⟨r, hrow⟩ := hw.get hi
  have r2 := r.sub (lo := 0) (hi := k) (Nat.zero_le _) hk
  rw [List.drop_zero, Nat.sub_zero] at r2
  refine hw.change hi (fun k hk => hk) (fun _ _ => rfl) rfl ⟨rfl, rfl, rfl⟩ ⟨r2, fun hn => ?_⟩
  obtain ⟨h1, cs, T, fz, h2, h3, h4, h5⟩ := hrow hn
  refine ⟨h1, cs, T, fz, h2, ?_, h4, h5⟩
  rw [Sv.sub_0]; exact h3
end
section
variable {P : Program} {N : Fra} {w0 : World} {env : Env} {L : List Ent} {Q : Exit → Act → World → Prop} {l rest : List Oper} {d : Option Tmp} {ty : TypeId} {ps : String} {af : Array Edge} {gd : Option (Nat × Bool)}
variable {α : Type} {enc : α → Array Value} {c : Nat} {xs : List α}
theorem sq_appendN {x y : Operand} {tx tys e : TypeId} {by' k : Nat} {z : Value} {kn kq : IntKind} {iy : Int} (x0 : α) (hx : ev env x = some (.slice none 0 0)) (hy : ev env y = some (.int kq iy)) (hk0 : iy = (k : Int)) (h0 : 0 < k)
    [ht : SlT P tx e c by'] [he : Enc enc c] (hc : 0 < c) [hz : ZeroT P e z] (hz0 : enc x0 = z.cells) (htn : P.underlying tys = some (.int kn)) (hb : k * by' ≤ 140737488355328) (h63 : k ≤ 140737488355328)
    (hk : ∀ b C : Nat, k ≤ C → Sq P N w0 l Q rest (putE env d (Sv.val ⟨false, b, 0, k, C, none⟩)) (own enc c ⟨false, b, 0, k, C, none⟩ (List.replicate k x0) :: L)) (hd : dstOk N d = true := by rfl) :
    Sq P N w0 l Q (⟨d, .call { callee := .builtin .append, args := #[x, y], argTypes := #[tx, tys] }, ty, ps, af, none⟩ :: rest) env L :=
  sq_run rfl hd fun aa w ha hw => by
    subst hk0
    obtain ⟨i', z', hi1, hi2, hi3, hi4, hzc⟩ := ht.info
    obtain rfl : z' = z := by
      have := hz.zero
      rw [hi1, Option.map_some, hi2] at this; exact Option.some.inj (Option.some.inj this)
    subst hi3 hi4
    have hrun := Lib.run_append_nil_zeros (P := P) w tx tys ty e i' z' kq kn ht.und htn hi1 hi2 k h0 hc (by omega) (by omega)
    have hcge := grownCap_ge w k 0 e
    generalize grownCap w k 0 e = C at hrun hcge
    have hZ1 := size_zeroCells z'.cells k
    have hZ2 := size_zeroCells z'.cells (C - k)
    have hgetZ : ∀ m i j, i < m → j < i'.size → (Builtin.zeroCells z'.cells m)[i * i'.size + j]? = z'.cells[j]? := fun m i j hi hj => by
      have hlt : i * i'.size + j < m * z'.cells.size := by
        rw [hzc]
        have : (i + 1) * i'.size ≤ m * i'.size := Nat.mul_le_mul_right _ hi
        rw [Nat.add_mul] at this; omega
      have e1 : (i * i'.size + j) % z'.cells.size = j := by rw [hzc, Nat.mul_comm, Nat.mul_add_mod]; exact Nat.mod_eq_of_lt hj
      have hz3 : j < z'.cells.size := by omega
      simp [Builtin.zeroCells, hlt, e1, hz3]
    refine ⟨_, _, _, ?_, hw.drew.call (mem_new (enc := enc) (c := i'.size) (xs := List.replicate k x0) (cs := Builtin.zeroCells z'.cells k ++ Builtin.zeroCells z'.cells (C - k)) (e := e) rfl k C (by simp) hcge h63 ?_ fun i x hx j hj => ?_), hk _ C hcge⟩
    · simp [execOp, ha.ev hx, ha.ev hy, resolve, invoke, builtin, hrun, Result.andThen, Sv.val]
    · rw [Array.size_append, hZ1, hZ2, hzc, ← Nat.add_mul]; exact Nat.mul_le_mul_right _ (by omega)
    · have hi : i < k := by
        have := (List.getElem?_eq_some_iff.1 hx).1
        simpa using this
      obtain rfl : x0 = x := by rw [List.getElem?_replicate, if_pos hi] at hx; exact Option.some.inj hx
      rw [hz0, ← hgetZ k i j hi hj, Array.getElem?_append_left]
      rw [hZ1, hzc]
      have : (i + 1) * i'.size ≤ k * i'.size := Nat.mul_le_mul_right _ hi
      rw [Nat.add_mul] at this; omega
theorem ry_capN {t e : TypeId} {x : Operand} {m : Nat} [ht : SliceT P t e m] (hx : ev env x = some (.slice none 0 0)) :
    Ry P N w0 env L ⟨d, .call { callee := .builtin .cap, args := #[x], argTypes := #[t] }, ty, ps, af, gd⟩ (.int .i64 (0 : Nat)) := fun a w ha _ => by
  have hu : P.underlying t = some (.slice (P.elem t)) := by rw [elem_of ht.und]; exact ht.und
  have := run_cap_slice (P := P) (w := w) t ty none 0 0 hu
  simp [execOp, ha.ev hx, resolve, invoke, builtin, this, Result.andThen, goInt]
class AllG (w0 : World) (L : List Ent) {τ : Type} [Deep τ] (xs : List τ) : Prop where
  h : ∀ w, Mem w0 L w → ∀ x ∈ xs, Deep.good (hp w) x
instance AllG.nil {τ : Type} [Deep τ] : AllG w0 L ([] : List τ) := ⟨fun _ _ _ h => by cases h⟩
instance AllG.cons {τ : Type} [Deep τ] {x : τ} {xs : List τ} [a : HdD w0 L x] [b : AllG w0 L xs] : AllG w0 L (x :: xs) := ⟨fun w hw y hy => by
  rcases List.mem_cons.1 hy with rfl | hy
  · exact a.h w hw
  · exact b.h w hw y hy⟩
instance (priority := low) HdD.flat {τ : Type} [Deep τ] [Plain τ] {enc : τ → Array Value} {c : Nat} [FlatT τ enc c] {s : Sv} {xs : List τ} [q : HdE w0 L enc c s xs] : HdD w0 L (⟨s, xs⟩ : Sl τ) := ⟨fun w hw => by
  have hl := q.h w hw
  have e1 : Deep.cells (τ := τ) = enc := funext (FlatT.h (c := c))
  have e2 : Deep.c τ = c := FlatT.hc (enc := enc)
  refine ⟨?_, fun x _ => Deep.good_of _ x (by rw [Plain.h x]; exact trivial)⟩
  subst e1 e2
  exact hl⟩
instance (priority := low) HdD.rows {τ : Type} [Deep τ] {enc : τ → Array Value} {c : Nat} [FlatT τ enc c] {s : Sv} {xs : List τ} [q : HdE w0 L enc c s xs] [g : AllG w0 L xs] : HdD w0 L (⟨s, xs⟩ : Sl τ) := ⟨fun w hw => by
  have hl := q.h w hw
  have e1 : Deep.cells (τ := τ) = enc := funext (FlatT.h (c := c))
  have e2 : Deep.c τ = c := FlatT.hc (enc := enc)
  refine ⟨?_, g.h w hw⟩
  subst e1 e2
  exact hl⟩
theorem sq_nameD {τ : Type} [Deep τ] {s : Sv} {xs : List τ} [g : HdD w0 L (⟨s, xs⟩ : Sl τ)] (h : ∀ a : Sl τ, a = ⟨s, xs⟩ → HdD w0 L a → Sq P N w0 l Q rest (putE env d a.sv.val) L) : Sq P N w0 l Q rest (putE env d s.val) L := h _ rfl g
def flatB (l : List (Sl UInt8)) : List UInt8 := (l.map Sl.xs).flatten
theorem flatB_snoc {l : List (Sl UInt8)} {i : Nat} {x : Sl UInt8} (h : l[i]? = some x) : flatB (l.take (i + 1)) = flatB (l.take i) ++ x.xs := by
  rw [flatB, List.take_add_one, h]; simp [flatB]
theorem flatB_le (l : List (Sl UInt8)) (i : Nat) : (flatB (l.take i)).length ≤ (flatB l).length := by
  have e : flatB l = flatB (l.take i) ++ flatB (l.drop i) := by
    unfold flatB
    rw [← List.flatten_append, ← List.map_append, List.take_append_drop]
  rw [e, List.length_append]; omega
end
def sealed (l : List UInt8) : List UInt8 := l ++ be (Kb.crc l) 4
def openE (l : List UInt8) : Int := if l.length < 4 then 3 else if Kb.crc (l.take (l.length - 4)) = de (l.drop (l.length - 4)) then 0 else 4
def openV (l : List UInt8) : List UInt8 := if openE l = 0 then l.take (l.length - 4) else []
/-! Numbers as bytes, and back. -/
theorem de_foldl (l : List UInt8) : ∀ n, l.foldl (fun a b => a * 256 + b.toNat) n = n * 256 ^ l.length + de l := by
  induction l with
  | nil => intro n; simp [de]
  | cons x l ih =>
    intro n
    rw [List.foldl_cons, ih, show de (x :: l) = l.foldl (fun a b => a * 256 + b.toNat) (0 * 256 + x.toNat) from rfl, ih, List.length_cons, Nat.pow_succ]
    simp only [Nat.zero_mul, Nat.zero_add, Nat.add_mul]
    rw [Nat.mul_assoc n, Nat.mul_comm 256, Nat.add_assoc]
theorem de_cons (x : UInt8) (l : List UInt8) : de (x :: l) = x.toNat * 256 ^ l.length + de l := by
  rw [show de (x :: l) = l.foldl (fun a b => a * 256 + b.toNat) (0 * 256 + x.toNat) from rfl, de_foldl]; simp
theorem de_all (l : List UInt8) : de l < 256 ^ l.length := by
  have := de_lt l l.length (Nat.le_refl _)
  rwa [List.take_length] at this
theorem be_add (m n : Nat) : ∀ k, be (m * 256 ^ k + n) k = be n k
  | 0 => rfl
  | k + 1 => by
    have e : m * 256 ^ (k + 1) + n = (m * 256) * 256 ^ k + n := by rw [Nat.pow_succ, Nat.mul_assoc, Nat.mul_comm 256]
    rw [be, be, e, be_add (m * 256) n k, Nat.add_comm, Nat.add_mul_div_right _ _ (Nat.pow_pos (by decide))]
    congr 1
    apply UInt8.toNat_inj.1
    rw [b8_toNat, b8_toNat]; omega
theorem be_de : ∀ l : List UInt8, be (de l) l.length = l
  | [] => rfl
  | x :: l => by
    have h := de_all l
    rw [de_cons, List.length_cons, be, be_add, be_de l, Nat.add_comm, Nat.add_mul_div_right _ _ (Nat.pow_pos (by decide)), Nat.div_eq_of_lt h, Nat.zero_add, b8_of]
theorem de_be (n : Nat) : ∀ k, de (be n k) = n % 256 ^ k
  | 0 => by simp [be, de, Nat.mod_one]
  | k + 1 => by
    rw [be, de_cons, be_length, de_be n k, b8_toNat, Nat.pow_succ, Nat.mod_mul, Nat.mul_comm, Nat.add_comm]
theorem open_iff {l : List UInt8} (h : ¬ l.length < 4) : sealed (l.take (l.length - 4)) = l ↔ Kb.crc (l.take (l.length - 4)) = de (l.drop (l.length - 4)) := by
  have hd : (l.drop (l.length - 4)).length = 4 := by simp; omega
  have e : l = l.take (l.length - 4) ++ l.drop (l.length - 4) := (List.take_append_drop _ _).symm
  constructor
  · intro h1
    have h2 : be (Kb.crc (l.take (l.length - 4))) 4 = l.drop (l.length - 4) := by
      have h3 : l.take (l.length - 4) ++ be (Kb.crc (l.take (l.length - 4))) 4 = l.take (l.length - 4) ++ l.drop (l.length - 4) := by rw [← e]; exact h1
      exact List.append_cancel_left h3
    rw [← h2, de_be, Nat.mod_eq_of_lt (Nat.lt_of_lt_of_le (Kb.crc_lt _) (by decide))]
  · intro h1
    have h2 := be_de (l.drop (l.length - 4))
    rw [hd, ← h1] at h2
    rw [sealed, h2, ← e]
def openS (b : Sv) (l : List UInt8) : Sv := if openE l = 0 then b.sub 1 0 (l.length - 4) else Sv.none
instance {w0 : World} {L : List Ent} {b : Sv} {l : List UInt8} [q : HdE w0 L benc 1 b l] : HdE w0 L benc 1 (openS b l) (openV l) := ⟨fun w hw => by
  unfold openS openV
  split
  · have := (q.h w hw).sub (lo := 0) (hi := l.length - 4) (Nat.zero_le _) (by omega)
    rwa [List.drop_zero, Nat.sub_zero] at this
  · exact Lies.nil benc 1 _⟩
end Go.Eng

/- A slice that is either one that the call was given, or one of its own. -/
namespace Go.Eng
open Go.RowKit
section
variable {w0 : World} {L : List Ent} {α : Type} {enc : α → Array Value} {c : Nat} {xs ys : List α} {s t : Sv} {g : Bool}
def selE (g : Bool) (e : Ent) : Ent := if g = true then .emp else e
class SelG (g : Bool) (s : Sv) {α : outParam Type} (xs : outParam (List α)) (t : outParam Sv) (ys : outParam (List α)) : Prop where
  h : g = true → s = t ∧ xs = ys
class OwnsS (L : List Ent) (s : Sv) {α : outParam Type} (enc : outParam (α → Array Value)) (c : outParam Nat) (xs : outParam (List α)) (g : outParam Bool) (i : outParam Nat) : Prop where
  h : L[i]? = some (selE g (own enc c s xs))
instance (priority := high) OwnsS.here {L : List Ent} : OwnsS (selE g (own enc c s xs) :: L) s enc c xs g 0 := ⟨rfl⟩
instance OwnsS.there {L : List Ent} {e : Ent} {i : Nat} [q : OwnsS L s enc c xs g i] : OwnsS (e :: L) s enc c xs g (i + 1) := ⟨by simpa using q.h⟩
instance (priority := low) Hd.sel {i : Nat} [q : OwnsS L s enc c xs g i] [r : SelG g s xs t ys] [h : HdE w0 L enc c t ys] : Hd w0 L s enc c xs := ⟨fun w hw => by
  cases hg : g with
  | true =>
    obtain ⟨rfl, rfl⟩ := r.h hg
    exact h.h w hw
  | false =>
    have e : (own enc c s xs).sat (fun k => w.heap[k]?) := by
      have := hw.get q.h
      rw [hg] at this; exact this
    exact e.1⟩
theorem Mem.selT {e : Ent} {w : World} (h : Mem w0 L w) : Mem w0 (selE true e :: L) w := Mem.emp_iff.2 h
theorem Mem.selF {e : Ent} {w : World} (h : Mem w0 (e :: L) w) : Mem w0 (selE false e :: L) w := h
theorem Mem.selJoin {g g' : Bool} {s s' : Sv} {w : World} (h : Mem w0 (selE g' (own enc c s' ys) :: selE g (own enc c s xs) :: L) w) (hg : g' = true → s' = s ∧ ys = xs) : Mem w0 (selE (g' && g) (own enc c s' ys) :: L) w := by
  cases g' with
  | true =>
    obtain ⟨rfl, rfl⟩ := hg rfl
    exact Mem.emp_iff.1 h
  | false =>
    rw [Bool.false_and]
    exact h.sub (List.Sublist.cons_cons _ (List.sublist_cons_self _ _))
end
section
variable {P : Program} {N : Fra} {w0 : World} {env : Env} {L : List Ent} {l : List Oper} {Q : Exit → Act → World → Prop} {rest : List Oper} {d : Option Tmp} {ty : TypeId} {ps : String} {af : Array Edge}
theorem sq_gd {op} {j t : Nat} {b g : Bool} (hj : (l[j]?).bind (·.dst) = some t) (hv : look env t = some (.bool g)) (ht : g = b) (h : Sq P N w0 l Q (⟨d, op, ty, ps, af, none⟩ :: rest) env L) :
    Sq P N w0 l Q (⟨d, op, ty, ps, af, some (j, b)⟩ :: rest) env L := fun a w ha hw => by
  have h1 := h a w ha hw
  unfold wpList at h1 ⊢
  rw [if_pos (wanted_none rfl)] at h1
  rw [wanted_some ha rfl hj hv, ht, beq_self_eq_true, if_pos rfl]
  exact h1
end
/-! Slices of slices whose elements are others'. -/
section
variable {w0 : World} {L : List Ent} {τ : Type} [Deep τ]
instance (priority := low) AllG.of {a : Sl τ} [q : HdD w0 L a] : AllG w0 L a.xs := ⟨fun w hw => (q.h w hw).2⟩
instance AllG.append {xs ys : List τ} [a : AllG w0 L xs] [b : AllG w0 L ys] : AllG w0 L (xs ++ ys) := ⟨fun w hw x hx => by
  rcases List.mem_append.1 hx with h | h
  · exact a.h w hw x h
  · exact b.h w hw x h⟩
class Within (xs : List τ) (a : outParam (Sl τ)) : Prop where
  h : ∀ x ∈ xs, x ∈ a.xs
instance (priority := low) AllG.within {xs : List τ} {a : Sl τ} [q : Within xs a] [g : HdD w0 L a] : AllG w0 L xs := ⟨fun w hw x hx => (g.h w hw).2 x (q.h x hx)⟩
end
section
variable {w0 : World} {L : List Ent} {τ : Type} [Deep τ]
instance AllG.take {xs : List τ} {n : Nat} [q : AllG w0 L xs] : AllG w0 L (xs.take n) := ⟨fun w hw x hx => q.h w hw x (List.mem_of_mem_take hx)⟩
instance AllG.drop {xs : List τ} {n : Nat} [q : AllG w0 L xs] : AllG w0 L (xs.drop n) := ⟨fun w hw x hx => q.h w hw x (List.mem_of_mem_drop hx)⟩
class NamedD (a : Sl τ) (s : outParam Sv) (xs : outParam (List τ)) : Prop where
  h : a = ⟨s, xs⟩
instance (priority := low) HdD.named {a : Sl τ} {s : Sv} {xs : List τ} [n : NamedD a s xs] [q : HdD w0 L (⟨s, xs⟩ : Sl τ)] : HdD w0 L a := ⟨by rw [n.h]; exact q.h⟩
end
end Go.Eng

/- A bag of entries beside a row. -/
namespace Go.Eng
open Go.RowKit Go.Kb
section
variable {w0 : World} {L : List Ent} {τ : Type} [Deep τ] {xs : List τ} {es : List Ent}
class InBag (xs : List τ) (es : outParam (List Ent)) : Prop where
  h : ∀ x ∈ xs, Deep.ent x ∈ es
instance (priority := low) AllG.bag {i : Nat} [b : InBag xs es] [q : At L (Ent.all es) i] : AllG w0 L xs := ⟨fun _ hw x hx => Deep.good_of _ x (Ent.all_sat (hw.get q.h) _ (b.h x hx))⟩
instance (priority := low) HdD.bagged {a : Sl τ} {enc : τ → Array Value} {c i : Nat} [f : FlatT τ enc c] [q : Owns L a.sv enc c a.xs i] [g : AllG w0 L a.xs] : HdD w0 L a := ⟨fun w hw => by
  have hl := q.holds w hw
  have e1 : Deep.cells (τ := τ) = enc := funext (FlatT.h (c := c))
  have e2 : Deep.c τ = c := FlatT.hc (enc := enc)
  refine ⟨?_, g.h w hw⟩
  rw [e1, e2]; exact hl⟩
theorem Mem.bag0 {w : World} (h : Mem w0 L w) : Mem w0 (Ent.all [] :: L) w := Mem.emp_iff.2 h
theorem Mem.bagPush {w : World} {e : Ent} (h : Mem w0 (e :: Ent.all es :: L) w) : Mem w0 (Ent.all (e :: es) :: L) w := Mem.two_iff.2 h
theorem Mem.shutP {w : World} {s : Sv} {enc : τ → Array Value} {c : Nat} [f : FlatT τ enc c] [Plain τ] (h : Mem w0 (own enc c s xs :: L) w) : Mem w0 (Deep.ent (⟨s, xs⟩ : Sl τ) :: L) w := Tr.shut_p.mem h
class InB (x : τ) (es : outParam (List Ent)) : Prop where
  h : Deep.ent x ∈ es
instance (priority := low) HdD.inb {x : τ} {i : Nat} [b : InB x es] [q : At L (Ent.all es) i] : HdD w0 L x := ⟨fun _ hw => Deep.good_of _ x (Ent.all_sat (hw.get q.h) _ b.h)⟩
theorem InBag.nil : InBag ([] : List τ) [] := ⟨fun _ h => (List.not_mem_nil h).elim⟩
end
theorem over_all {cs vs : Array Value} (h : cs.size = vs.size) : over cs 0 vs = vs := by
  unfold over; apply Array.ext'; simp [← h]
end Go.Eng

/- What was read lately: items kept, looked for, gone through page by page. What is computed, and its laws. No program in sight. -/
namespace Go.Kb
open Go.Eng

/-! Items that are kept. -/
abbrev KV := Int × List UInt8
def kval (x : It) : KV := (x.id, x.body.xs)
def kvs (l : List It) : List KV := l.map kval
theorem kvs_length (l : List It) : (kvs l).length = l.length := by simp [kvs]
theorem kvs_get {l : List It} {i : Nat} {x : It} (h : l[i]? = some x) : (kvs l)[i]? = some (kval x) := by simp [kvs, h]
structure Kp where
  most : Int
  items : Sl It
def kpcells (x : Kp) : Array Value := #[.int .i64 x.most, x.items.sv.val]
instance : Enc kpcells 2 := ⟨fun _ => rfl, fun x => by
  have h1 : (Value.int .i64 x.most).oneCell' = true := rfl
  simp only [kpcells, List.all_toArray, List.all_cons, List.all_nil, Sv.one, h1, Bool.and_self]⟩
instance (x : Kp) : SizeIs (kpcells x) 2 := ⟨rfl, Enc.one x⟩
instance (x : Kp) : PartAt (kpcells x) 0 2 (kpcells x) := ⟨rfl, fun j _ => by rw [Nat.zero_add]⟩
instance (x : Kp) : CellAt (kpcells x) 0 (.int .i64 x.most) := ⟨rfl⟩
instance (x : Kp) : CellAt (kpcells x) 1 x.items.sv.val := ⟨rfl⟩
instance : Deep Kp where
  c := 2
  cells := kpcells
  size := Enc.size
  one := Enc.one
  good h x := Deep.good h x.items
  ent x := Deep.ent x.items
  good_of h x hs := Deep.good_of h x.items hs
  mono w w' x := Deep.mono w w' x.items
instance : FlatT Kp kpcells 2 := ⟨rfl, fun _ => rfl⟩
instance {w0 : World} {L : List Ent} {x : Kp} [q : HdD w0 L x] : HdD w0 L x.items := ⟨q.h⟩
instance {w0 : World} {L : List Ent} {b : Int} {s : Sl It} [q : HdD w0 L s] : HdD w0 L (Kp.mk b s) := ⟨q.h⟩
instance {w0 : World} {L : List Ent} {n : Int} {a : Sl UInt8} [q : HdD w0 L a] : HdD w0 L (It.mk n a) := ⟨q.h⟩
instance (x : It) : SizeIs (icells x) 2 := ⟨rfl, Enc.one x⟩
def zit : It := ⟨0, ⟨Sv.none, []⟩⟩

/-! The place of an id. -/
def plc (l : List KV) (id : Int) : Nat := l.findIdx fun x => decide (x.1 = id)
def plI (l : List KV) (id : Int) : Int := if plc l id < l.length then (plc l id : Int) else -1
theorem plc_le (l : List KV) (id : Int) : plc l id ≤ l.length := List.findIdx_le_length
theorem plc_at {l : List KV} {id : Int} {i : Nat} {x : KV} (hx : l[i]? = some x) (h1 : x.1 = id) (h2 : ∀ y ∈ l.take i, y.1 ≠ id) : plc l id = i := by
  obtain ⟨hi, rfl⟩ := List.getElem?_eq_some_iff.1 hx
  refine (List.findIdx_eq hi).2 ⟨by simpa using h1, fun j hj => ?_⟩
  have := h2 l[j] (by rw [List.mem_take_iff_getElem]; exact ⟨j, by omega, rfl⟩)
  simpa using this
theorem plc_none {l : List KV} {id : Int} (h : ∀ y ∈ l, y.1 ≠ id) : plc l id = l.length := by
  apply List.findIdx_eq_length.2; intro x hx; simpa using h x hx
theorem plc_get {l : List KV} {id : Int} (h : plc l id < l.length) : ∃ x, l[plc l id]? = some x ∧ x.1 = id := by
  refine ⟨l[plc l id], by simp [h], ?_⟩
  have := List.findIdx_getElem (p := fun x : KV => decide (x.1 = id)) (xs := l) (w := h)
  simp only [decide_eq_true_eq] at this; exact this
theorem plc_mem {l : List KV} {id : Int} : plc l id < l.length ↔ ∃ x ∈ l, x.1 = id := by
  constructor
  · intro h; obtain ⟨x, hx, he⟩ := plc_get h; exact ⟨x, List.mem_of_getElem? hx, he⟩
  · rintro ⟨x, hx, rfl⟩
    exact List.findIdx_lt_length_of_exists ⟨x, hx, by simp⟩

/-! Is what is kept right? -/
def kright (m : Int) (l : List KV) : Bool := decide (1 ≤ m) && decide (m ≤ 64) && decide ((l.length : Int) ≤ m) && (List.range l.length).all fun i => match l[i]? with
  | some x => decide (0 ≤ x.1) && decide (plc l x.1 = i)
  | none => true
theorem kright_iff {m : Int} {l : List KV} : kright m l = true ↔ 1 ≤ m ∧ m ≤ 64 ∧ (l.length : Int) ≤ m ∧ ∀ (i : Nat) (x : KV), l[i]? = some x → 0 ≤ x.1 ∧ plc l x.1 = i := by
  rw [kright, Bool.and_eq_true, Bool.and_eq_true, Bool.and_eq_true, decide_eq_true_eq, decide_eq_true_eq, decide_eq_true_eq, List.all_eq_true, and_assoc, and_assoc]
  refine and_congr_right fun _ => and_congr_right fun _ => and_congr_right fun _ => ⟨fun h i x hx => ?_, fun h i hi => ?_⟩
  · have := h i (List.mem_range.2 (List.getElem?_eq_some_iff.1 hx).1)
    simpa [hx] using this
  · cases hx : l[i]? with
    | none => rfl
    | some x => have := h i x hx; simpa using this
theorem kright_step {m : Int} {l : List KV} {i : Nat} {x : KV} (hx : l[i]? = some x) (h : ¬ (0 ≤ x.1 ∧ plc l x.1 = i)) : kright m l = false := by
  cases hk : kright m l with
  | false => rfl
  | true => exact absurd ((kright_iff.1 hk).2.2.2 i x hx) h

/-! Looked for; kept. -/
def lookO (m : Int) (l : List KV) (id : Int) : Bool := kright m l && decide (plc l id < l.length)
def lookK (m : Int) (l : List KV) (id : Int) : List KV := if lookO m l id = true then (l.take (plc l id) ++ l.drop (plc l id + 1)) ++ [l.getD (plc l id) (0, [])] else l
def lookB (m : Int) (l : List KV) (id : Int) : List UInt8 := if lookO m l id = true then (l.getD (plc l id) (0, [])).2 else []
def keepE (m : Int) (l : List KV) (x : KV) : Int := if kright m l = true ∧ 0 ≤ x.1 then 0 else 1
def keepC (m : Int) (l : List KV) (x : KV) : List KV :=
  if plc l x.1 < l.length then l.take (plc l x.1) ++ l.drop (plc l x.1 + 1) else if (l.length : Int) = m then l.drop 1 else l
def keepK (m : Int) (l : List KV) (x : KV) : List KV := if kright m l = true ∧ 0 ≤ x.1 then keepC m l x ++ [x] else l
def newM (m : Int) : Int := if 1 ≤ m ∧ m ≤ 64 then m else 0
def newE (m : Int) : Int := if 1 ≤ m ∧ m ≤ 64 then 0 else 1
theorem keepC_len (m : Int) (l : List KV) (x : KV) : (keepC m l x).length ≤ l.length := by
  unfold keepC
  split
  · simp only [List.length_append, List.length_take, List.length_drop]; omega
  · split
    · simp only [List.length_drop]; omega
    · exact Nat.le_refl _

/-! Pages by their numbers. -/
def lru (cap : Nat) (ids : List Nat) (a : Nat) : List Nat := if a ∈ ids then ids.erase a ++ [a] else (if ids.length = cap then ids.drop 1 else ids) ++ [a]
def stepV (cap : Nat) (s : List Nat × Nat × Nat) (a : Nat) : List Nat × Nat × Nat := (lru cap s.1 a, if a ∈ s.1 then s.2.1 + 1 else s.2.1, if a ∈ s.1 then s.2.2 else s.2.2 + 1)
def runV (cap : Nat) (s : List Nat × Nat × Nat) (ws : List Nat) : List Nat × Nat × Nat := ws.foldl (stepV cap) s
theorem runV_nil (cap : Nat) (s : List Nat × Nat × Nat) : runV cap s [] = s := rfl
theorem runV_snoc (cap : Nat) (s : List Nat × Nat × Nat) (ws : List Nat) (a : Nat) : runV cap s (ws ++ [a]) = stepV cap (runV cap s ws) a := by simp [runV]
theorem runV_take {cap : Nat} {s : List Nat × Nat × Nat} {ws : List Nat} {i a : Nat} (h : ws[i]? = some a) : runV cap s (ws.take (i + 1)) = stepV cap (runV cap s (ws.take i)) a := by
  rw [List.take_add_one, h]; exact runV_snoc _ _ _ _
structure Ids (cap n : Nat) (ids : List Nat) : Prop where
  nd : ids.Nodup
  le : ids.length ≤ cap
  lt : ∀ a ∈ ids, a < n
theorem nodup_snoc {ids : List Nat} {a : Nat} (h : ids.Nodup) (ha : a ∉ ids) : (ids ++ [a]).Nodup := by
  rw [List.nodup_append]; exact ⟨h, by simp, fun x hx y hy => by rw [List.mem_singleton] at hy; subst hy; exact fun e => ha (e ▸ hx)⟩
theorem Ids.lru {cap n : Nat} {ids : List Nat} (h : Ids cap n ids) {a : Nat} (ha : a < n) (hc : 0 < cap) : Ids cap n (lru cap ids a) := by
  unfold Go.Kb.lru
  split
  · rename_i hm
    have hl := List.length_erase_of_mem hm
    refine ⟨nodup_snoc (h.nd.erase a) (fun hx => (List.Nodup.mem_erase_iff h.nd).1 hx |>.1 rfl), ?_, fun x hx => ?_⟩
    · rw [List.length_append, hl]; have := h.le; have := List.length_pos_of_mem hm; simp only [List.length_cons, List.length_nil]; omega
    · rcases List.mem_append.1 hx with hx | hx
      · exact h.lt x (List.mem_of_mem_erase hx)
      · rw [List.mem_singleton.1 hx]; exact ha
  · rename_i hm
    have hsub : ∀ x ∈ (if ids.length = cap then ids.drop 1 else ids), x ∈ ids := fun x hx => by
      split at hx
      · exact List.mem_of_mem_drop hx
      · exact hx
    refine ⟨nodup_snoc ?_ (fun hx => hm (hsub a hx)), ?_, fun x hx => ?_⟩
    · split
      · exact h.nd.sublist (List.drop_sublist _ _)
      · exact h.nd
    · have := h.le
      rw [List.length_append]
      split
      · rw [List.length_drop]; simp only [List.length_cons, List.length_nil]; omega
      · simp only [List.length_cons, List.length_nil]; omega
    · rcases List.mem_append.1 hx with hx | hx
      · exact h.lt x (hsub x hx)
      · rw [List.mem_singleton.1 hx]; exact ha
theorem Ids.run {cap n : Nat} (hc : 0 < cap) : ∀ {ws : List Nat} {s : List Nat × Nat × Nat}, Ids cap n s.1 → (∀ a ∈ ws, a < n) → Ids cap n (runV cap s ws).1
  | [], _, h, _ => h
  | a :: r, s, h, hw => Ids.run hc (s := stepV cap s a) (h.lru (hw a (by simp)) hc) (fun x hx => hw x (List.mem_cons_of_mem _ hx))
theorem runV_sum (cap : Nat) : ∀ (ws : List Nat) (s : List Nat × Nat × Nat), (runV cap s ws).2.1 + (runV cap s ws).2.2 = s.2.1 + s.2.2 + ws.length
  | [], s => by simp [runV]
  | a :: r, s => by
    have := runV_sum cap r (stepV cap s a)
    rw [show runV cap s (a :: r) = runV cap (stepV cap s a) r from rfl, this, List.length_cons]
    simp only [stepV]; split <;> omega
theorem len_subN : ∀ {a b : List Nat}, a.Nodup → (∀ x ∈ a, x ∈ b) → a.length ≤ b.length
  | [], _, _, _ => Nat.zero_le _
  | x :: a, b, hn, h => by
    have h1 := List.nodup_cons.1 hn
    have hx := h x (by simp)
    have := len_subN (b := b.erase x) h1.2 fun y hy => (List.mem_erase_of_ne (by rintro rfl; exact h1.1 hy)).2 (h y (List.mem_cons_of_mem _ hy))
    rw [List.length_erase_of_mem hx] at this
    have := List.length_pos_of_mem hx
    rw [List.length_cons]; omega
theorem len_ltN {a : List Nat} {n : Nat} (hn : a.Nodup) (h : ∀ x ∈ a, x < n) : a.length ≤ n := by
  have := len_subN (b := List.range n) hn (fun x hx => List.mem_range.2 (h x hx))
  simpa using this
theorem runV_hit {cap : Nat} : ∀ {ws : List Nat} {s : List Nat × Nat × Nat}, (∀ a ∈ ws, a ∈ s.1) → (runV cap s ws).2.2 = s.2.2 ∧ (runV cap s ws).2.1 = s.2.1 + ws.length
  | [], _, _ => ⟨rfl, rfl⟩
  | a :: r, s, h => by
    have ha : a ∈ s.1 := h a (by simp)
    have hk : ∀ x ∈ r, x ∈ (stepV cap s a).1 := fun x hx => by
      have := h x (List.mem_cons_of_mem _ hx)
      simp only [stepV, lru, if_pos ha]
      by_cases he : x = a
      · subst he; simp
      · exact List.mem_append.2 (.inl ((List.mem_erase_of_ne he).2 this))
    have := runV_hit (cap := cap) hk
    have e1 : (stepV cap s a).2.2 = s.2.2 := by simp [stepV, ha]
    have e2 : (stepV cap s a).2.1 = s.2.1 + 1 := by simp [stepV, ha]
    rw [show runV cap s (a :: r) = runV cap (stepV cap s a) r from rfl, this.1, this.2, e1, e2, List.length_cons]
    exact ⟨rfl, by omega⟩
structure Lately (o r ws : List Nat) (mis : Nat) : Prop where
  nd : (o ++ r).Nodup
  sub : ∀ a ∈ r, a ∈ ws
  all : ∀ a ∈ ws, a ∈ r
  mis : mis ≤ r.length
theorem Lately.step {cap n : Nat} {o r ws : List Nat} {m h a : Nat} (H : Lately o r ws m) (hc : ∀ l : List Nat, l.Nodup → (∀ x ∈ l, x ∈ ws ++ [a]) → l.length ≤ cap) (hl : (o ++ r).length ≤ cap) :
    ∃ o' r', (stepV cap (o ++ r, h, m) a).1 = o' ++ r' ∧ Lately o' r' (ws ++ [a]) (stepV cap (o ++ r, h, m) a).2.2 ∧ n = n := by
  obtain ⟨hno, hnr, hd⟩ := List.nodup_append.1 H.nd
  by_cases hr : a ∈ r
  · have hao : a ∉ o := fun h => hd a h a hr rfl
    refine ⟨o, r.erase a ++ [a], ?_, ⟨?_, fun x hx => ?_, fun x hx => ?_, ?_⟩, rfl⟩
    · simp only [stepV, lru, if_pos (List.mem_append.2 (.inr hr)), List.erase_append_right _ hao, List.append_assoc]
    · rw [← List.append_assoc, ← List.erase_append_right _ hao]
      exact nodup_snoc (H.nd.erase a) (fun hx => (List.Nodup.mem_erase_iff H.nd).1 hx |>.1 rfl)
    · rcases List.mem_append.1 hx with hx | hx
      · exact List.mem_append.2 (.inl (H.sub x (List.mem_of_mem_erase hx)))
      · exact List.mem_append.2 (.inr hx)
    · by_cases he : x = a
      · subst he; simp
      · rcases List.mem_append.1 hx with hx | hx
        · exact List.mem_append.2 (.inl ((List.mem_erase_of_ne he).2 (H.all x hx)))
        · exact absurd (List.mem_singleton.1 hx) he
    · have := H.mis
      have h1 := List.length_erase_of_mem hr
      have h2 := List.length_pos_of_mem hr
      simp only [stepV, if_pos (List.mem_append.2 (.inr hr) : a ∈ o ++ r), List.length_append, h1, List.length_cons, List.length_nil]; omega
  · have hnra : (r ++ [a]).Nodup := nodup_snoc hnr hr
    have sub2 : ∀ x ∈ r ++ [a], x ∈ ws ++ [a] := fun x hx => by
      rcases List.mem_append.1 hx with hx | hx
      · exact List.mem_append.2 (.inl (H.sub x hx))
      · exact List.mem_append.2 (.inr hx)
    have all2 : ∀ x ∈ ws ++ [a], x ∈ r ++ [a] := fun x hx => by
      rcases List.mem_append.1 hx with hx | hx
      · exact List.mem_append.2 (.inl (H.all x hx))
      · exact List.mem_append.2 (.inr hx)
    have hm := H.mis
    by_cases ho : a ∈ o
    · refine ⟨o.erase a, r ++ [a], ?_, ⟨?_, sub2, all2, ?_⟩, rfl⟩
      · simp only [stepV, lru, if_pos (List.mem_append.2 (.inl ho) : a ∈ o ++ r), List.erase_append_left _ ho, List.append_assoc]
      · rw [← List.append_assoc, ← List.erase_append_left _ ho]
        exact nodup_snoc (H.nd.erase a) (fun hx => (List.Nodup.mem_erase_iff H.nd).1 hx |>.1 rfl)
      · simp only [stepV, if_pos (List.mem_append.2 (.inl ho) : a ∈ o ++ r), List.length_append]; omega
    · have hno2 : a ∉ o ++ r := fun h => (List.mem_append.1 h).elim ho hr
      refine ⟨if (o ++ r).length = cap then o.drop 1 else o, r ++ [a], ?_, ⟨?_, sub2, all2, ?_⟩, rfl⟩
      · simp only [stepV, lru, if_neg hno2]
        split
        · rename_i hcap
          cases o with
          | nil =>
            exfalso
            have := hc (r ++ [a]) hnra sub2
            rw [List.nil_append] at hcap
            rw [List.length_append, List.length_singleton] at this; omega
          | cons x o => simp
        · simp
      · have hs : (if (o ++ r).length = cap then o.drop 1 else o).Sublist o := by
          split
          · exact List.drop_sublist _ _
          · exact List.Sublist.refl _
        rw [← List.append_assoc]
        refine nodup_snoc (H.nd.sublist (List.Sublist.append hs (List.Sublist.refl _))) fun hx => ?_
        rcases List.mem_append.1 hx with hx | hx
        · exact ho (hs.subset hx)
        · exact hr hx
      · simp only [stepV, if_neg hno2, List.length_append, List.length_cons, List.length_nil]; omega
theorem lately_run {cap : Nat} : ∀ {ws pre o r : List Nat} {m h : Nat}, Lately o r pre m → (∀ l : List Nat, l.Nodup → (∀ x ∈ l, x ∈ pre ++ ws) → l.length ≤ cap) → (o ++ r).length ≤ cap → 0 < cap →
    ∃ o' r', (runV cap (o ++ r, h, m) ws).1 = o' ++ r' ∧ Lately o' r' (pre ++ ws) (runV cap (o ++ r, h, m) ws).2.2
  | [], pre, o, r, m, h, H, _, _, _ => ⟨o, r, rfl, by rw [List.append_nil]; exact H⟩
  | a :: ws, pre, o, r, m, h, H, hc, hl, hp => by
    have e : pre ++ a :: ws = (pre ++ [a]) ++ ws := by simp
    obtain ⟨o1, r1, h1, H1, _⟩ := H.step (n := 0) (h := h) (a := a) (fun l hn hs => hc l hn (fun x hx => by rw [e]; exact List.mem_append.2 (.inl (hs x hx)))) hl
    have hid : Ids cap (((o ++ r) ++ [a]).foldl max 0 + 1) (o ++ r) := ⟨H.nd, hl, fun x hx => by
      have : ∀ (l : List Nat) (b y : Nat), y ∈ l ∨ y ≤ b → y ≤ l.foldl max b := by
        intro l
        induction l with
        | nil => intro b y h; rcases h with h | h; cases h; exact h
        | cons z l ih => intro b y h; exact ih _ y (by rcases h with h | h; (rcases List.mem_cons.1 h with rfl | h; (right; omega); exact .inl h); (right; omega))
      exact Nat.lt_succ_of_le (this _ 0 x (.inl (List.mem_append.2 (.inl hx))))⟩
    have hb : a < ((o ++ r) ++ [a]).foldl max 0 + 1 := by
      rw [List.foldl_append]; simp only [List.foldl_cons, List.foldl_nil]; omega
    have hl1 := (hid.lru hb hp).le
    have hst : (stepV cap (o ++ r, h, m) a) = (o1 ++ r1, (stepV cap (o ++ r, h, m) a).2.1, (stepV cap (o ++ r, h, m) a).2.2) := by rw [← h1]
    have hll : (o1 ++ r1).length ≤ cap := by rw [← h1]; exact hl1
    obtain ⟨o2, r2, h2, H2⟩ := lately_run (ws := ws) (h := (stepV cap (o ++ r, h, m) a).2.1) H1 (fun l hn hs => hc l hn (by rw [e]; exact hs)) hll hp
    rw [← hst] at h2 H2
    exact ⟨o2, r2, h2, by rw [e]; exact H2⟩
theorem runV_room {cap n M : Nat} {ids ws : List Nat} (hi : Ids cap n ids) (hc : 0 < cap) (hw : ∀ a ∈ ws, a < n) (hM : ∀ l : List Nat, l.Nodup → (∀ x ∈ l, x ∈ ws) → l.length ≤ M) (hcap : M ≤ cap) :
    (runV cap (ids, 0, 0) ws).2.2 ≤ M ∧ ∀ a ∈ ws, a ∈ (runV cap (ids, 0, 0) ws).1 := by
  obtain ⟨o, r, h1, h2⟩ := lately_run (cap := cap) (ws := ws) (pre := []) (o := ids) (r := []) (m := 0) (h := 0) ⟨by simpa using hi.nd, by simp, by simp, Nat.zero_le _⟩
    (fun l hn hs => Nat.le_trans (hM l hn (by simpa using hs)) hcap) (by simpa using hi.le) hc
  rw [List.append_nil] at h1 h2
  rw [List.nil_append] at h2
  refine ⟨Nat.le_trans h2.mis (hM r (List.nodup_append.1 h2.nd).2.1 h2.sub), fun a ha => ?_⟩
  rw [h1]; exact List.mem_append.2 (.inr (h2.all a ha))
def chgP (ws : List Nat) : Nat → Nat
  | 0 => 1
  | i + 1 => if ws.getD (i + 1) 0 ≠ ws.getD i 0 then chgP ws i + 1 else chgP ws i
theorem runV_one {ws : List Nat} : ∀ {i : Nat}, i < ws.length → runV 1 ([], 0, 0) (ws.take (i + 1)) = ([ws.getD i 0], i + 1 - chgP ws i, chgP ws i) ∧ chgP ws i ≤ i + 1
  | 0, h => by
    obtain ⟨a, ha⟩ : ∃ a, ws[0]? = some a := ⟨ws[0], by simp [h]⟩
    rw [runV_take ha, List.take_zero]
    have : ws.getD 0 0 = a := by simp [List.getD, ha]
    simp [stepV, runV, lru, chgP, List.getD, ha]
  | i + 1, h => by
    obtain ⟨h1, h2⟩ := runV_one (ws := ws) (i := i) (by omega)
    obtain ⟨a, ha⟩ : ∃ a, ws[i + 1]? = some a := ⟨ws[i + 1], by simp [h]⟩
    have ea : ws.getD (i + 1) 0 = a := by simp [List.getD, ha]
    rw [runV_take ha, h1, chgP, ea]
    by_cases he : a = ws.getD i 0
    · rw [if_neg (fun h => h he)]
      refine ⟨?_, by omega⟩
      simp only [stepV, lru, he, List.mem_singleton, if_true]
      simp; omega
    · rw [if_pos he]
      refine ⟨?_, by omega⟩
      have : a ∉ [ws.getD i 0] := by simpa using he
      simp only [stepV, lru, if_neg this, List.length_singleton, if_true]
      simp

/-! What is kept of pages. -/
def ofP (ps : List (List UInt8)) (ids : List Nat) : List KV := ids.map fun n : Nat => ((n : Int), ps.getD n [])
theorem ofP_length (ps : List (List UInt8)) (ids : List Nat) : (ofP ps ids).length = ids.length := by simp [ofP]
theorem ofP_get {ps : List (List UInt8)} {ids : List Nat} {i a : Nat} (h : ids[i]? = some a) : (ofP ps ids)[i]? = some ((a : Int), ps.getD a []) := by simp [ofP, h]
theorem ofP_plc {ps : List (List UInt8)} : ∀ (ids : List Nat) (a : Nat), plc (ofP ps ids) (a : Int) = ids.idxOf a
  | [], _ => rfl
  | b :: r, a => by
    have := ofP_plc (ps := ps) r a
    simp only [plc, ofP, List.map_cons, List.findIdx_cons, List.idxOf_cons] at this ⊢
    by_cases h : b = a
    · subst h; simp
    · have h1 : decide (((b : Nat) : Int) = ((a : Nat) : Int)) = false := by simp; omega
      have h2 : (b == a) = false := by simp [h]
      rw [h1, h2]; simp only [cond_false]; rw [this]
theorem Ids.right {cap n : Nat} {ps : List (List UInt8)} {ids : List Nat} (h : Ids cap n ids) (h0 : 0 < cap) (h1 : cap ≤ 64) : kright (cap : Nat) (ofP ps ids) = true := by
  refine kright_iff.2 ⟨by omega, by omega, by rw [ofP_length]; have := h.le; omega, fun i x hx => ?_⟩
  obtain ⟨a, ha, rfl⟩ : ∃ a, ids[i]? = some a ∧ ((a : Int), ps.getD a []) = x := by
    simp only [ofP, List.getElem?_map, Option.map_eq_some_iff] at hx; exact hx
  refine ⟨by simp only; omega, ?_⟩
  simp only
  rw [ofP_plc]
  obtain ⟨hi, rfl⟩ := List.getElem?_eq_some_iff.1 ha
  exact List.Nodup.idxOf_getElem h.nd i hi
theorem erase_idx {ids : List Nat} {a : Nat} (h : a ∈ ids) : ids.erase a = ids.take (ids.idxOf a) ++ ids.drop (ids.idxOf a + 1) := by
  rw [List.erase_eq_eraseIdx_of_idxOf rfl, List.eraseIdx_eq_take_drop_succ]
theorem ofP_look {cap n : Nat} {ps : List (List UInt8)} {ids : List Nat} (h : Ids cap n ids) (h0 : 0 < cap) (h1 : cap ≤ 64) (a : Nat) :
    lookO (cap : Nat) (ofP ps ids) a = decide (a ∈ ids) ∧ (a ∈ ids → lookK (cap : Nat) (ofP ps ids) a = ofP ps (lru cap ids a)) := by
  have ho : lookO (cap : Nat) (ofP ps ids) a = decide (a ∈ ids) := by
    rw [lookO, h.right h0 h1, ofP_plc, ofP_length, Bool.true_and, decide_eq_decide, List.idxOf_lt_length_iff]
  refine ⟨ho, fun ha => ?_⟩
  have hi := List.idxOf_lt_length_iff.2 ha
  rw [lookK, if_pos (by rw [ho]; simpa using ha), ofP_plc, lru, if_pos ha, erase_idx ha]
  have hg : (ofP ps ids).getD (ids.idxOf a) (0, []) = ((a : Int), ps.getD a []) := by
    have : ids[ids.idxOf a]? = some a := by rw [List.getElem?_eq_getElem hi, List.getElem_idxOf hi]
    rw [List.getD, ofP_get this]; rfl
  rw [hg]
  simp only [ofP, List.map_append, List.map_take, List.map_drop, List.map_cons, List.map_nil]
theorem ofP_keep {cap n : Nat} {ps : List (List UInt8)} {ids : List Nat} (h : Ids cap n ids) (h0 : 0 < cap) (h1 : cap ≤ 64) {a : Nat} (ha : a ∉ ids) :
    keepK (cap : Nat) (ofP ps ids) ((a : Int), ps.getD a []) = ofP ps (lru cap ids a) ∧ keepE (cap : Nat) (ofP ps ids) ((a : Int), ps.getD a []) = 0 := by
  have hr := h.right (ps := ps) h0 h1
  have hg : kright (cap : Nat) (ofP ps ids) = true ∧ 0 ≤ ((a : Int), ps.getD a []).1 := ⟨hr, by simp only; omega⟩
  refine ⟨?_, by rw [keepE, if_pos hg]⟩
  rw [keepK, if_pos hg, keepC, ofP_plc, ofP_length, if_neg (by rw [List.idxOf_lt_length_iff]; exact ha), lru, if_neg ha]
  by_cases hc : ids.length = cap
  · rw [if_pos hc, if_pos (by omega)]; simp [ofP]
  · rw [if_neg hc, if_neg (by omega)]; simp [ofP]
end Go.Kb

