/- Of a table's trie: its steps, a key's way in it, what it finds. No program in sight. -/
import Derived.Test.YtembaconocgmlaaTq
set_option linter.unusedSimpArgs false
set_option linter.unusedVariables false
namespace Go.Kb

/-- What is so of the ways of a table for keys of so many bits. -/
structure WB (bits : Int) (W : List Wy) : Prop where
  w : WOk W
  room : ∀ v ∈ W, 4 * ((v.steps : Int) + 1) ≤ bits
theorem room_of {p : Pfx} (h : pmay p = true) {s : Nat} (hs : s ≤ lastN p) : 4 * ((s : Int) + 1) ≤ p.bits := by
  obtain ⟨h1, h2, h3, _⟩ := (pmay_iff p).1 h
  unfold lastN at hs; omega
theorem ways_mem {bits : Int} : ∀ {t : List Rt} {v : Wy}, v ∈ waysF bits t → v = root ∨ ∃ r ∈ t, r.p.bits = bits ∧ ∃ s, 1 ≤ s ∧ s ≤ lastN r.p ∧ v = wayAt r.p.key s := by
  intro t
  suffices h : ∀ (t : List Rt) (W : List Wy) (v : Wy), v ∈ t.foldl (fun W r => addWs W r bits) W → v ∈ W ∨ ∃ r ∈ t, r.p.bits = bits ∧ ∃ s, 1 ≤ s ∧ s ≤ lastN r.p ∧ v = wayAt r.p.key s by
    intro v hv
    rcases h t [root] v hv with h1 | h1
    · exact .inl (List.mem_singleton.1 h1)
    · exact .inr h1
  intro t
  induction t with
  | nil => intro W v hv; exact .inl hv
  | cons r t ih =>
    intro W v hv
    rcases ih _ v hv with h1 | ⟨r', h2, h3⟩
    · replace h1 : v ∈ addWs W r bits := h1
      unfold addWs at h1
      split at h1
      · rename_i hb
        rcases addTo_mem.1 h1 with h1 | ⟨s, h4, h5, h6⟩
        · exact .inl h1
        · exact .inr ⟨r, by simp, hb, s, h4, h5, h6⟩
      · exact .inl h1
    · exact .inr ⟨r', by simp [h2], h3⟩
theorem ways_bits {bits : Int} {t : List Rt} (hb : bits = 32 ∨ bits = 128) (h : ∀ r ∈ t, pmay r.p = true) : WB bits (waysF bits t) := ⟨ways_ok h, fun v hv => by
  rcases ways_mem hv with rfl | ⟨r, h1, h2, s, h3, h4, rfl⟩
  · simp only [root]; omega
  · have := room_of (h r h1) h4
    rw [h2] at this; exact this⟩

/-- The way ahead of one. -/
def par (v : Wy) : Wy := wayAt v.key (v.steps - 1)
theorem par_child {v : Wy} (hv : v.ok) (hs : 0 < v.steps) : child (par v) (kst v.key (v.steps - 1)) = v := by
  rw [par, child_wayAt _ _ (by have := hv.1; omega), show v.steps - 1 + 1 = v.steps by omega]
  obtain ⟨s, k⟩ := v
  rw [wayAt]; congr 1; exact hv.2
theorem child_par {v : Wy} (hv : v.ok) {b : Nat} (hb : b < 16) : par (child v b) = v ∧ kst (child v b).key ((child v b).steps - 1) = b := by
  obtain ⟨s, k⟩ := v
  have h1 := rset_cut (n := s) (b := b) (k := k) hv.1 hb hv.2
  have h2 := rset_kst (n := s) (b := b) (k := k) hv.1 hb hv.2
  refine ⟨?_, h2⟩
  simp only [par, child, wayAt, Nat.add_sub_cancel]
  rw [h1]

section
variable {bits : Int} {W : List Wy} {R : List Rt}
theorem par_lt (hW : WOk W) {i : Nat} {v : Wy} (hi : W[i]? = some v) (hs : 0 < v.steps) : ∃ j, j < i ∧ W[j]? = some (par v) := hW.ord i v hi (v.steps - 1) (by omega)
theorem idx_par (hW : WOk W) {i : Nat} {v : Wy} (hi : W[i]? = some v) (hs : 0 < v.steps) : W.idxOf (par v) < i := by
  obtain ⟨j, hj, e⟩ := par_lt hW hi hs
  rw [get_idx hW.nodup e]; exact hj

/-- The steps that are told of a way where nodes ahead of i are done, and of node i the slots ahead of b. -/
def lab (W : List Wy) (i b : Nat) (v : Wy) : Int :=
  if v.steps = 0 ∨ W.idxOf (par v) < i ∨ W.idxOf (par v) = i ∧ kst v.key (v.steps - 1) < b then (v.steps : Int) + 1 else 0
def labs (W : List Wy) (i b : Nat) : List Int := W.map (lab W i b)
theorem labs_get {i b j : Nat} {v : Wy} (hj : W[j]? = some v) : (labs W i b)[j]? = some (lab W i b v) := by simp [labs, hj]
theorem labs_zero (hW : WOk W) : labs W 0 0 = (List.replicate W.length 0).set 0 1 := by
  refine List.ext_getElem? fun j => ?_
  rcases Nat.lt_or_ge j W.length with hj | hj
  · obtain ⟨v, hv⟩ : ∃ v, W[j]? = some v := ⟨W[j], by simp [hj]⟩
    rw [labs_get hv, List.getElem?_set]
    split
    · rename_i e; subst e
      obtain rfl := Option.some.inj (hv.symm.trans hW.root)
      rw [if_pos (by simpa using hj)]; rfl
    · rename_i e
      have hs : v.steps ≠ 0 := fun h0 => e (by
        have hvk := hW.ok v (List.mem_of_getElem? hv)
        have : v = root := by
          obtain ⟨s, k⟩ := v
          simp only at h0; subst h0
          have := hvk.2
          simp only [Nat.mul_zero] at this
          rw [kcut_none _ _ (by decide)] at this
          rw [root, ← this]
        subst this
        exact get_inj hW.nodup hW.root hv)
      rw [lab, if_neg (by omega)]
      simp [hj]
  · rw [List.getElem?_eq_none (by simp [labs]; omega), List.getElem?_eq_none (by simp; omega)]
theorem labs_row (i : Nat) : labs W i 16 = labs W (i + 1) 0 := by
  refine List.map_congr_left fun v _ => ?_
  have := kst_lt v.key (v.steps - 1)
  unfold lab
  by_cases h1 : v.steps = 0
  · simp [h1]
  · by_cases h2 : W.idxOf (par v) < i + 1
    · rw [if_pos (by omega), if_pos (by omega)]
    · rw [if_neg (by omega), if_neg (by omega)]
theorem lab_self (hW : WOk W) {i b : Nat} {v : Wy} (hi : W[i]? = some v) : lab W i b v = (v.steps : Int) + 1 := by
  unfold lab
  by_cases h : v.steps = 0
  · rw [if_pos (.inl h)]
  · rw [if_pos (.inr (.inl (idx_par hW hi (by omega))))]
theorem slotF_len {w : Wy} {b : Nat} (hm : ∀ r ∈ R, pmay r.p = true) : 0 ≤ (slotF bits R w b).len ∧ (slotF bits R w b).len ≤ 4 * ((w.steps : Int) + 1) + 1 := by
  suffices h : ∀ (R : List Rt) (s : Slt), (∀ r ∈ R, pmay r.p = true) → 0 ≤ s.len ∧ s.len ≤ 4 * ((w.steps : Int) + 1) + 1 → 0 ≤ (R.foldl (slotUp bits w b) s).len ∧ (R.foldl (slotUp bits w b) s).len ≤ 4 * ((w.steps : Int) + 1) + 1 from h R _ hm (by simp [Slt.no]; omega)
  intro R
  induction R with
  | nil => intro s _ h; exact h
  | cons r R ih =>
    intro s hm h
    refine ih _ (fun x hx => hm x (by simp [hx])) ?_
    unfold slotUp
    split
    · rename_i hh
      obtain ⟨h1, h2, h3, _⟩ := (pmay_iff r.p).1 (hm r (by simp))
      have := hh.1
      simp only [hit, Bool.and_eq_true, decide_eq_true_eq] at this
      have hl := this.1.2
      unfold lastN at hl
      simp only; omega
    · exact h
theorem labs_step (hW : WOk W) {i b : Nat} {v : Wy} (hi : W[i]? = some v) (hb : b < 16) (hm : ∀ r ∈ R, pmay r.p = true) :
    stepOne W.length i (nodeF bits W R v) b (labs W i b) = some (labs W i (b + 1)) := by
  have hvk := hW.ok v (List.mem_of_getElem? hi)
  have hx : (labs W i b).getD i 0 = (v.steps : Int) + 1 := by rw [getD_some (labs_get hi), lab_self hW hi]
  have hsl := slotF_len (bits := bits) (w := v) (b := b) hm
  rw [stepOne, hx, nodeF, Nd.sl_mk' hb, Nd.nx_mk' hb, if_neg (by omega)]
  have key : ∀ u, u ∈ W → u.steps ≠ 0 → W.idxOf (par u) = i → kst u.key (u.steps - 1) = b → u = child v b := fun u hu h1 h2 h3 => by
    have hpu : par u ∈ W := hW.up u hu _ (by omega)
    have := idx_get hpu
    rw [h2, hi] at this
    rw [Option.some.inj this, ← h3, par_child (hW.ok u hu) (by omega)]
  by_cases h : child v b ∈ W
  · have hpos := (nextF_pos hW).2 h
    obtain ⟨hp1, hp2⟩ := child_par hvk hb
    have hget := idx_get h
    have hidx : W.idxOf (par (child v b)) = i := by rw [hp1]; exact get_idx hW.nodup hi
    have hlt := idx_par hW hget (by simp [child])
    rw [hidx] at hlt
    have hln := idx_lt h
    have hn : nextF W v b = (W.idxOf (child v b) : Nat) := by rw [nextF, if_pos h]
    have hz : (labs W i b).getD (nextF W v b).toNat 0 = 0 := by
      rw [hn, Int.toNat_natCast, getD_some (labs_get hget), lab, if_neg]
      rw [hidx, hp2]; simp [child]
    rw [if_neg (by omega), if_neg (by omega), hn, Int.toNat_natCast]
    refine congrArg some (List.ext_getElem? fun j => ?_)
    rw [List.getElem?_set]
    rcases Nat.lt_or_ge j W.length with hj | hj
    · obtain ⟨u, hu⟩ : ∃ u, W[j]? = some u := ⟨W[j], by simp [hj]⟩
      rw [labs_get hu, labs_get hu]
      split
      · rename_i e; subst e
        obtain rfl := Option.some.inj (hget.symm.trans hu)
        rw [if_pos (by simp [labs]; exact hj), lab, if_pos (.inr (.inr ⟨hidx, by omega⟩))]
        simp [child]
      · rename_i e
        have hne : u ≠ child v b := fun e' => by subst e'; exact e (get_inj hW.nodup hget hu)
        congr 1
        unfold lab
        by_cases h1 : u.steps = 0
        · rw [if_pos (.inl h1), if_pos (.inl h1)]
        · have hk := fun h2 h3 => hne (key u (List.mem_of_getElem? hu) h1 h2 h3)
          by_cases h2 : W.idxOf (par u) = i ∧ kst u.key (u.steps - 1) < b + 1
          · have : ¬ kst u.key (u.steps - 1) = b := hk h2.1
            rw [if_pos (.inr (.inr ⟨h2.1, by omega⟩)), if_pos (.inr (.inr h2))]
          · by_cases h4 : W.idxOf (par u) < i
            · rw [if_pos (.inr (.inl h4)), if_pos (.inr (.inl h4))]
            · rw [if_neg (by omega), if_neg (by omega)]
    · rw [List.getElem?_eq_none (by simp [labs]; omega), List.getElem?_eq_none (by simp [labs]; omega), if_neg (by omega)]
  · have hn : nextF W v b = 0 := by rw [nextF, if_neg h]
    rw [if_pos hn]
    refine congrArg some (List.map_congr_left fun u hu => ?_)
    unfold lab
    by_cases h1 : u.steps = 0
    · rw [if_pos (.inl h1), if_pos (.inl h1)]
    · have hk : ∀ h2 : W.idxOf (par u) = i, ¬ kst u.key (u.steps - 1) = b := fun h2 h3 => h (key u hu h1 h2 h3 ▸ hu)
      by_cases h2 : W.idxOf (par u) = i ∧ kst u.key (u.steps - 1) < b + 1
      · have := hk h2.1
        rw [if_pos (.inr (.inr ⟨h2.1, by omega⟩)), if_pos (.inr (.inr h2))]
      · by_cases h4 : W.idxOf (par u) < i
        · rw [if_pos (.inr (.inl h4)), if_pos (.inr (.inl h4))]
        · rw [if_neg (by omega), if_neg (by omega)]
theorem steps_row (hW : WOk W) {i : Nat} {v : Wy} (hi : W[i]? = some v) (hm : ∀ r ∈ R, pmay r.p = true) : ∀ b, b ≤ 16 → stepsB W.length i (nodeF bits W R v) b (labs W i 0) = some (labs W i b)
  | 0, _ => rfl
  | b + 1, hb => by rw [stepsB, steps_row hW hi hm b (by omega), Option.bind_some, labs_step hW hi (by omega) hm]
theorem steps_all (hW : WB bits W) (hm : ∀ r ∈ R, pmay r.p = true) : ∀ i, i ≤ W.length → stepsN bits (nodes bits W R) i = some (labs W i 0)
  | 0, _ => by rw [stepsN, nodes_length, labs_zero hW.w]
  | i + 1, hi => by
    obtain ⟨v, hv⟩ : ∃ v, W[i]? = some v := ⟨W[i], by simp [show i < W.length by omega]⟩
    have hr := hW.room v (List.mem_of_getElem? hv)
    have hx : (labs W i 0).getD i 0 = (v.steps : Int) + 1 := by rw [getD_some (labs_get hv), lab_self hW.w hv]
    rw [stepsN, steps_all hW hm i (by omega), Option.bind_some, hx, if_neg (by omega), nodes_getD hv, nodes_length, steps_row hW.w hv hm 16 (Nat.le_refl _), labs_row]
/-- A table's trie is right, and its nodes are at as many steps as their ways have. -/
theorem steps_eq (hb : bits = 32 ∨ bits = 128) (hW : WB bits W) (hm : ∀ r ∈ R, pmay r.p = true) (hl : W.length ≤ 512) : stepsV bits (nodes bits W R) = some (W.map fun v => (v.steps : Int) + 1) := by
  rw [stepsV, nodes_length, if_pos ⟨hb, hW.w.ne, hl⟩, steps_all hW hm _ (Nat.le_refl _)]
  refine congrArg some (List.map_congr_left fun v hv => ?_)
  unfold lab
  by_cases h : v.steps = 0
  · rw [if_pos (.inl h)]
  · rw [if_pos (.inr (.inl (idx_lt (hW.w.up v hv _ (by omega)))))]

/-! A key's way. -/
theorem chain_at (hW : WOk W) {k : Key} : ∀ {n : Nat}, n ≤ 32 → (∀ j, j ≤ n → wayAt k j ∈ W) → chain (nodes bits W R) k n = W.idxOf (wayAt k n)
  | 0, _, _ => by rw [chain, wayAt_zero, get_idx hW.nodup hW.root]
  | n + 1, hn, h => by
    have ih := chain_at hW (k := k) (n := n) (by omega) fun j hj => h j (by omega)
    have hw := idx_get (h n (by omega))
    rw [chain, ih, nodes_getD hw, nodeF, Nd.nx_mk' (kst_lt k n), nextF, child_wayAt _ _ (by omega), if_pos (h (n + 1) (Nat.le_refl _)), Int.toNat_natCast]
theorem chain_end (hW : WOk W) {k : Key} {n : Nat} (hn : n < 32) (h : ∀ j, j ≤ n → wayAt k j ∈ W) (h2 : wayAt k (n + 1) ∉ W) : chain (nodes bits W R) k (n + 1) = 0 := by
  have hw := idx_get (h n (Nat.le_refl _))
  rw [chain, chain_at hW (by omega) h, nodes_getD hw, nodeF, Nd.nx_mk' (kst_lt k n), nextF, child_wayAt _ _ hn, if_neg h2]; rfl
/-- How far a key's way is in the table. -/
def deepK (W : List Wy) (k : Key) (n : Nat) : Nat := ((List.range n).find? fun j => decide (wayAt k (j + 1) ∉ W)).getD n
theorem deepK_le {k : Key} {n : Nat} : deepK W k n ≤ n := by
  unfold deepK
  cases h : (List.range n).find? fun j => decide (wayAt k (j + 1) ∉ W) with
  | none => exact Nat.le_refl _
  | some i => have := List.mem_of_find?_eq_some h; simp at this; exact Nat.le_of_lt this
theorem deepK_in (hW : WOk W) {k : Key} {n j : Nat} (hj : j ≤ deepK W k n) : wayAt k j ∈ W := by
  rcases Nat.eq_zero_or_pos j with e | e
  · subst e; rw [wayAt_zero]; exact List.mem_of_getElem? hW.root
  · unfold deepK at hj
    cases h : (List.range n).find? fun j => decide (wayAt k (j + 1) ∉ W) with
    | none =>
      rw [h] at hj
      have := List.find?_eq_none.1 h (j - 1) (by simp at hj ⊢; omega)
      simpa [show j - 1 + 1 = j by omega] using this
    | some i =>
      rw [h] at hj
      obtain ⟨_, _, h3⟩ := List.find?_range_eq_some.1 h
      have := h3 (j - 1) (by simp at hj; omega)
      simpa [show j - 1 + 1 = j by omega] using this
theorem deepK_out {k : Key} {n : Nat} (h : deepK W k n < n) : wayAt k (deepK W k n + 1) ∉ W := by
  unfold deepK at h ⊢
  cases e : (List.range n).find? fun j => decide (wayAt k (j + 1) ∉ W) with
  | none => rw [e] at h; simp at h
  | some i =>
    rw [e] at h
    have := (List.find?_range_eq_some.1 e).1
    simpa using this
theorem wayAt_down (hW : WOk W) {k : Key} {i j : Nat} (hij : i ≤ j) (h : wayAt k j ∈ W) : wayAt k i ∈ W := by
  have := hW.up _ h i hij
  rwa [wayAt_up _ _ _ hij] at this
theorem deepK_iff (hW : WOk W) {k : Key} {n j : Nat} (hn : ∀ v ∈ W, v.steps < n) : wayAt k j ∈ W ↔ j ≤ deepK W k n := by
  refine ⟨fun h => ?_, deepK_in hW⟩
  rcases Nat.lt_or_ge (deepK W k n) j with h1 | h1
  · have hjn := hn _ h
    have : wayAt k (deepK W k n + 1) ∈ W := wayAt_down hW h1 h
    exact absurd this (deepK_out (by have : j < n := hjn; omega))
  · exact h1
theorem idx_pos (hW : WOk W) {k : Key} {n : Nat} (h : wayAt k (n + 1) ∈ W) : 0 < W.idxOf (wayAt k (n + 1)) := by
  have := idx_get h
  rcases Nat.eq_zero_or_pos (W.idxOf (wayAt k (n + 1))) with e | e
  · rw [e, hW.root] at this
    have := congrArg Wy.steps (Option.some.inj this)
    simp [root, wayAt] at this
  · exact e
theorem wayLen_eq (hW : WB bits W) (hb : bits = 32 ∨ bits = 128) {k : Key} : wayLen (nodes bits W R) k (bits / 4).toNat = deepK W k (bits / 4).toNat ∧ deepK W k (bits / 4).toNat < (bits / 4).toNat := by
  have hn : ∀ v ∈ W, v.steps < (bits / 4).toNat := fun v hv => by have := hW.room v hv; omega
  have hd : deepK W k (bits / 4).toNat < (bits / 4).toNat := hn _ (deepK_in hW.w (Nat.le_refl _))
  refine ⟨wayLen_stop hd (fun j hj => ?_) ?_, hd⟩
  · rw [chain_at hW.w (by omega) fun i hi => deepK_in hW.w (n := (bits / 4).toNat) (by omega)]
    have := idx_pos hW.w (deepK_in hW.w (k := k) (n := (bits / 4).toNat) (j := j + 1) (by omega))
    omega
  · exact chain_end hW.w (by omega) (fun j hj => deepK_in hW.w hj) (deepK_out hd)
end

/-! How deep a table's trie is, and how many nodes it has. -/
def deepR (bits : Int) (R : List Rt) : Int := R.foldl (fun d r => if r.p.bits = bits then max d ((lastN r.p : Int) + 1) else d) 1
def allR (bits : Int) (R : List Rt) : Int := R.foldl (fun d r => if r.p.bits = bits then d + (lastN r.p : Int) else d) 1
theorem deepR_snoc (bits : Int) (R : List Rt) (r : Rt) : deepR bits (R ++ [r]) = if r.p.bits = bits then max (deepR bits R) ((lastN r.p : Int) + 1) else deepR bits R := by simp [deepR]
theorem allR_snoc (bits : Int) (R : List Rt) (r : Rt) : allR bits (R ++ [r]) = if r.p.bits = bits then allR bits R + (lastN r.p : Int) else allR bits R := by simp [allR]
theorem take_snoc {α : Type} {t : List α} {i : Nat} {r : α} (h : t[i]? = some r) : t.take (i + 1) = t.take i ++ [r] := by
  obtain ⟨hi, rfl⟩ := List.getElem?_eq_some_iff.1 h
  exact List.take_succ_eq_append_getElem hi
theorem deepR_take {bits : Int} {t : List Rt} (n : Nat) (hm : ∀ r ∈ t, pmay r.p = true) : 1 ≤ deepR bits (t.take n) ∧ deepR bits (t.take n) ≤ 32 ∧ (∀ r ∈ t.take n, r.p.bits = bits → (lastN r.p : Int) + 1 ≤ deepR bits (t.take n)) ∧ (deepR bits (t.take n) = 1 ∨ ∃ r ∈ t.take n, r.p.bits = bits ∧ deepR bits (t.take n) = (lastN r.p : Int) + 1) := by
  induction n with
  | zero => exact ⟨by simp [deepR], by simp [deepR], fun r hr => by simp at hr, .inl (by simp [deepR])⟩
  | succ n ih =>
    rcases Nat.lt_or_ge n t.length with h | h
    · have hr : t[n]? = some t[n] := by simp [h]
      have hl := lastN_lt (hm t[n] (by simp))
      rw [take_snoc hr, deepR_snoc]
      obtain ⟨h1, h2, h3, h4⟩ := ih
      split
      · rename_i hb
        refine ⟨by omega, by omega, fun r hr' hb' => ?_, ?_⟩
        · rcases List.mem_append.1 hr' with hr' | hr'
          · have := h3 r hr' hb'; omega
          · obtain rfl := List.mem_singleton.1 hr'; omega
        · rcases Int.lt_or_le (deepR bits (t.take n)) ((lastN t[n].p : Int) + 1) with hc | hc
          · exact .inr ⟨t[n], List.mem_append.2 (.inr (List.mem_singleton.2 rfl)), hb, by omega⟩
          · rw [Int.max_eq_left hc]
            rcases h4 with h4 | ⟨r, h5, h6, h7⟩
            · exact .inl h4
            · exact .inr ⟨r, List.mem_append.2 (.inl h5), h6, h7⟩
      · rename_i hb
        refine ⟨h1, h2, fun r hr' hb' => ?_, ?_⟩
        · rcases List.mem_append.1 hr' with hr' | hr'
          · exact h3 r hr' hb'
          · obtain rfl := List.mem_singleton.1 hr'; exact absurd hb' hb
        · rcases h4 with h4 | ⟨r, h5, h6, h7⟩
          · exact .inl h4
          · exact .inr ⟨r, List.mem_append.2 (.inl h5), h6, h7⟩
    · rw [List.take_of_length_le (by omega)] at ih ⊢; exact ih
theorem allR_take {bits : Int} {t : List Rt} (n : Nat) (hm : ∀ r ∈ t, pmay r.p = true) : 1 ≤ allR bits (t.take n) ∧ allR bits (t.take n) ≤ 1 + 31 * n := by
  induction n with
  | zero => exact ⟨by simp [allR], by simp [allR]⟩
  | succ n ih =>
    rcases Nat.lt_or_ge n t.length with h | h
    · have hr : t[n]? = some t[n] := by simp [h]
      have hl := lastN_lt (hm t[n] (by simp))
      rw [take_snoc hr, allR_snoc]
      split <;> omega
    · rw [List.take_of_length_le (by omega)] at ih ⊢; omega
theorem foldl_max_le {M : Int} : ∀ {l : List Int} {a : Int}, a ≤ M → (∀ x ∈ l, x ≤ M) → l.foldl max a ≤ M
  | [], _, h, _ => h
  | x :: l, a, h, hl => foldl_max_le (l := l) (by have := hl x (by simp); omega) fun y hy => hl y (by simp [hy])
theorem le_foldl_max : ∀ {l : List Int} {a : Int}, a ≤ l.foldl max a ∧ ∀ x ∈ l, x ≤ l.foldl max a
  | [], a => ⟨Int.le_refl _, fun x hx => by cases hx⟩
  | y :: l, a => by
    obtain ⟨h1, h2⟩ := le_foldl_max (l := l) (a := max a y)
    refine ⟨by rw [List.foldl_cons]; omega, fun x hx => ?_⟩
    rw [List.foldl_cons]
    rcases List.mem_cons.1 hx with rfl | hx
    · omega
    · exact h2 x hx
section
variable {bits : Int} {t : List Rt}
theorem way_in (hm : ∀ r ∈ t, pmay r.p = true) {r : Rt} (hr : r ∈ t) (hb : r.p.bits = bits) {s : Nat} (hs : s ≤ lastN r.p) : wayAt r.p.key s ∈ waysF bits t := by
  rcases Nat.eq_zero_or_pos s with e | e
  · subst e; rw [wayAt_zero]; exact List.mem_of_getElem? (ways_ok hm).root
  · have := holds_ways (bits := bits) t.length t
    rw [List.take_length] at this
    exact this r hr hb s e hs
theorem deep_eq (hb : bits = 32 ∨ bits = 128) (hm : ∀ r ∈ t, pmay r.p = true) (hl : (waysF bits t).length ≤ 512) : deepV bits (nodes bits (waysF bits t) t) = deepR bits t := by
  have hW := ways_bits hb hm
  obtain ⟨h1, h2, h3, h4⟩ := deepR_take (bits := bits) t.length hm
  rw [List.take_length] at h1 h2 h3 h4
  rw [deepV, steps_eq hb hW hm hl, Option.getD_some]
  apply Int.le_antisymm
  · refine foldl_max_le (by omega) fun x hx => ?_
    obtain ⟨v, hv, rfl⟩ := List.mem_map.1 hx
    rcases ways_mem hv with rfl | ⟨r, hr, hbr, s, h5, h6, rfl⟩
    · simp only [root]; omega
    · have := h3 r hr hbr
      simp only [wayAt]; omega
  · rcases h4 with h4 | ⟨r, hr, hbr, h5⟩
    · rw [h4]; exact le_foldl_max.2 1 (List.mem_map.2 ⟨root, List.mem_of_getElem? hW.w.root, rfl⟩)
    · rw [h5]; exact le_foldl_max.2 _ (List.mem_map.2 ⟨_, way_in hm hr hbr (Nat.le_refl _), rfl⟩)
theorem addTo_length {W : List Wy} {p : Pfx} : ∀ n, (addTo W p n).length ≤ W.length + n
  | 0 => Nat.le_refl _
  | n + 1 => by
    have := addTo_length (W := W) (p := p) n
    rw [addTo_succ]; unfold addW; split
    · omega
    · simp only [List.length_append, List.length_cons, List.length_nil]; omega
theorem ways_few (n : Nat) : ((waysF bits (t.take n)).length : Int) ≤ allR bits (t.take n) := by
  induction n with
  | zero => simp [waysF, allR]
  | succ n ih =>
    rcases Nat.lt_or_ge n t.length with h | h
    · have hr : t[n]? = some t[n] := by simp [h]
      rw [take_snoc hr, ways_snoc, allR_snoc]; unfold addWs
      split
      · have := addTo_length (W := waysF bits (t.take n)) (p := t[n].p) (lastN t[n].p); omega
      · exact ih
    · rw [List.take_of_length_le (by omega)] at ih ⊢; exact ih
theorem steps_le (hW : WOk (waysF bits t)) : ∀ (n i : Nat) (v : Wy), v.steps = n → (waysF bits t)[i]? = some v → n ≤ i := by
  intro n
  induction n with
  | zero => intro i v _ _; exact Nat.zero_le _
  | succ n ih =>
    intro i v hs hi
    obtain ⟨j, hj, e⟩ := par_lt hW hi (by omega)
    have := ih j (par v) (by simp only [par, wayAt]; omega) e
    omega
theorem ways_many (hm : ∀ r ∈ t, pmay r.p = true) : deepR bits t ≤ ((waysF bits t).length : Int) := by
  have hW := ways_ok (bits := bits) hm
  obtain ⟨_, _, _, h4⟩ := deepR_take (bits := bits) t.length hm
  rw [List.take_length] at h4
  rcases h4 with h4 | ⟨r, hr, hbr, h5⟩
  · have := hW.ne; omega
  · have hin := way_in hm hr hbr (Nat.le_refl _)
    have h1 := idx_lt hin
    have h2 := steps_le hW _ _ _ rfl (idx_get hin)
    simp only [wayAt] at h2
    have h3 : ((wayAt r.p.key (lastN r.p)).steps) = lastN r.p := rfl
    simp only [wayAt] at h1
    omega

/-! Walks in a table's trie. -/
theorem walkOk_eq (hb : bits = 32 ∨ bits = 128) (hm : ∀ r ∈ t, pmay r.p = true) (hl : (waysF bits t).length ≤ 512) (k : Key) : walkOk bits (nodes bits (waysF bits t) t) k = decide (kcut k bits = k) := by
  rw [walkOk, steps_eq hb (ways_bits hb hm) hm hl]; rfl
def deepT (bits : Int) (t : List Rt) (k : Key) : Nat := deepK (waysF bits t) k (bits / 4).toNat
theorem walkV_eq (hb : bits = 32 ∨ bits = 128) (hm : ∀ r ∈ t, pmay r.p = true) (hl : (waysF bits t).length ≤ 512) {k : Key} (hk : kcut k bits = k) :
    walkV bits (nodes bits (waysF bits t) t) k = (List.range (deepT bits t k + 1)).map fun j => (((waysF bits t).idxOf (wayAt k j) : Nat) : Int) := by
  have hW := ways_bits hb hm
  obtain ⟨h1, h2⟩ := wayLen_eq (R := t) hW hb (k := k)
  rw [walkV, if_pos (by rw [walkOk_eq hb hm hl, decide_eq_true hk]), h1, wayL]
  refine List.map_congr_left fun j hj => ?_
  have hj' : j ≤ deepT bits t k := by have := List.mem_range.1 hj; unfold deepT; omega
  rw [chain_at hW.w (by unfold deepT at hj'; omega) fun i hi => deepK_in hW.w (n := (bits / 4).toNat) (by unfold deepT at hj'; omega)]
theorem deepT_lt (hb : bits = 32 ∨ bits = 128) (hm : ∀ r ∈ t, pmay r.p = true) (k : Key) : deepT bits t k < (bits / 4).toNat := (wayLen_eq (R := t) (ways_bits hb hm) hb).2
theorem deepT_iff (hb : bits = 32 ∨ bits = 128) (hm : ∀ r ∈ t, pmay r.p = true) (k : Key) {j : Nat} : wayAt k j ∈ waysF bits t ↔ j ≤ deepT bits t k :=
  deepK_iff (ways_bits hb hm).w fun v hv => by have := (ways_bits hb hm).room v hv; omega
theorem way_common {k l : Key} {i : Nat} (h : (i : Int) ≤ kcommon k l / 4) : wayAt k i = wayAt l i := by
  have h0 := kcommon_spec k l
  obtain ⟨m, hm, h128, _⟩ := h0
  rw [wayAt, wayAt, (kcommon_ge (a := k) (b := l) (n := ((4 * i : Nat) : Int)) (by omega)).1 (by omega)]
theorem may_cut {p : Pfx} (h : pmay p = true) {bits : Int} (hb : p.bits = bits) : kcut p.key bits = p.key := by
  obtain ⟨_, _, h3, h4⟩ := (pmay_iff p).1 h
  rw [← h4, kcut_cut]; congr 1; omega
theorem deepR_room (hb : bits = 32 ∨ bits = 128) (hm : ∀ r ∈ t, pmay r.p = true) : deepR bits t ≤ bits / 4 := by
  obtain ⟨_, _, _, h4⟩ := deepR_take (bits := bits) t.length hm
  rw [List.take_length] at h4
  rcases h4 with h4 | ⟨r, hr, hbr, h5⟩
  · omega
  · have := room_of (hm r hr) (Nat.le_refl _)
    rw [hbr] at this; omega
theorem map_range_get {α : Type} {f : Nat → α} {n i : Nat} (h : i < n) : ((List.range n).map f)[i]? = some (f i) := by simp [h]
/-- Nodes that are marked. -/
def Mk (bits : Int) (W : List Wy) (R : List Rt) (on : List Bool) : Prop := on[0]? = some true ∧ ∀ r ∈ R, r.p.bits = bits → ∀ s, wayAt r.p.key s ∈ W → on[W.idxOf (wayAt r.p.key s)]? = some true
theorem set_true {on : List Bool} {i j : Nat} (h : on[j]? = some true) : (on.set i true)[j]? = some true := by
  rw [List.getElem?_set]
  split
  · rename_i e; subst e; rw [if_pos (List.getElem?_eq_some_iff.1 h).1]
  · exact h
theorem Mk.start {bits : Int} {W : List Wy} {t : List Rt} {n : Nat} (hn : 0 < n) : Mk bits W (t.take 0) ((List.replicate n false).set 0 true) := ⟨by simp [hn], fun r hr => by simp at hr⟩
theorem Mk.set {bits : Int} {W : List Wy} {R : List Rt} {on : List Bool} {i : Nat} (h : Mk bits W R on) : Mk bits W R (on.set i true) := ⟨set_true h.1, fun r hr hb s hs => set_true (h.2 r hr hb s hs)⟩
theorem Mk.snoc {bits : Int} {W : List Wy} {R : List Rt} {r : Rt} {on : List Bool} (h : Mk bits W R on) (h2 : r.p.bits = bits → ∀ s, wayAt r.p.key s ∈ W → on[W.idxOf (wayAt r.p.key s)]? = some true) : Mk bits W (R ++ [r]) on := ⟨h.1, fun q hq hb s hs => by
  rcases List.mem_append.1 hq with hq | hq
  · exact h.2 q hq hb s hs
  · obtain rfl := List.mem_singleton.1 hq; exact h2 hb s hs⟩
theorem mark_all (hm : ∀ r ∈ t, pmay r.p = true) {on : List Bool} (h : Mk bits (waysF bits t) t on) {n : Nat} (hn : n < (waysF bits t).length) : on[n]? = some true := by
  have hW := ways_ok (bits := bits) hm
  obtain ⟨v, hv⟩ : ∃ v, (waysF bits t)[n]? = some v := ⟨(waysF bits t)[n], by simp [hn]⟩
  rcases ways_mem (List.mem_of_getElem? hv) with rfl | ⟨r, hr, hbr, s, h5, h6, rfl⟩
  · rw [get_inj hW.nodup hv hW.root]; exact h.1
  · have := h.2 r hr hbr s (List.mem_of_getElem? hv)
    rwa [get_idx hW.nodup hv] at this
end
end Go.Kb
