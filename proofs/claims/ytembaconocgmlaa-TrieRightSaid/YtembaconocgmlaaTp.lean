/- A table becomes a trie, route by route. No program in sight. -/
import Derived.Test.YtembaconocgmlaaTn
set_option linter.unusedSimpArgs false
set_option linter.unusedVariables false
namespace Go.Kb

theorem idx_get {W : List Wy} {w : Wy} (h : w ∈ W) : W[W.idxOf w]? = some w := by
  have hl := List.idxOf_lt_length_iff.2 h
  rw [List.getElem?_eq_getElem hl, List.getElem_idxOf]
theorem idx_lt {W : List Wy} {w : Wy} (h : w ∈ W) : W.idxOf w < W.length := List.idxOf_lt_length_iff.2 h
theorem get_idx {W : List Wy} (hn : W.Nodup) {i : Nat} {w : Wy} (h : W[i]? = some w) : W.idxOf w = i := by
  obtain ⟨hi, rfl⟩ := List.getElem?_eq_some_iff.1 h
  exact List.Nodup.idxOf_getElem hn i hi
theorem get_inj {W : List Wy} (hn : W.Nodup) {i j : Nat} {w : Wy} (h : W[i]? = some w) (h' : W[j]? = some w) : i = j := by
  rw [← get_idx hn h, get_idx hn h']

def nextO (ns : List Nd) (node four : Nat) : Bool := decide (0 < (ns.getD node Nd.zero).nx four) || decide (ns.length < 512)
def nextN (ns : List Nd) (node four : Nat) : Int := if 0 < (ns.getD node Nd.zero).nx four then (ns.getD node Nd.zero).nx four else if 512 ≤ ns.length then 0 else ns.length
def nextL (ns : List Nd) (node four : Nat) : List Nd := if 0 < (ns.getD node Nd.zero).nx four ∨ 512 ≤ ns.length then ns else (ns ++ [Nd.zero]).set node ((ns.getD node Nd.zero).setNx four ns.length)

def nodes (bits : Int) (W : List Wy) (R : List Rt) : List Nd := W.map (nodeF bits W R)
@[simp] theorem nodes_length (bits : Int) (W : List Wy) (R : List Rt) : (nodes bits W R).length = W.length := by simp [nodes]
theorem nodes_get {bits : Int} {W : List Wy} {R : List Rt} {i : Nat} {w : Wy} (h : W[i]? = some w) : (nodes bits W R)[i]? = some (nodeF bits W R w) := by simp [nodes, h]
theorem nodes_getD {bits : Int} {W : List Wy} {R : List Rt} {i : Nat} {w : Wy} (h : W[i]? = some w) : (nodes bits W R).getD i Nd.zero = nodeF bits W R w := by
  rw [List.getD_eq_getElem?_getD, nodes_get h]; rfl

theorem nextF_pos {W : List Wy} (hW : WOk W) {w : Wy} {b : Nat} : 0 < nextF W w b ↔ child w b ∈ W := by
  unfold nextF; split
  · rename_i h
    refine ⟨fun _ => h, fun _ => ?_⟩
    rcases Nat.eq_zero_or_pos (W.idxOf (child w b)) with e | e
    · have h1 := idx_get h
      rw [e, hW.root] at h1
      have := congrArg Wy.steps (Option.some.inj h1)
      simp [child, root] at this
    · exact_mod_cast e
  · rename_i h; exact ⟨fun h' => absurd h' (by decide), fun h' => absurd h' h⟩
theorem nextF_range {W : List Wy} {w : Wy} {b : Nat} (h0 : 0 < W.length) : 0 ≤ nextF W w b ∧ nextF W w b < W.length := by
  unfold nextF; split
  · rename_i h; have := idx_lt h; omega
  · omega

theorem slotF_none {bits : Int} {w : Wy} {b : Nat} : ∀ {R : List Rt}, (∀ r ∈ R, hit r bits w b = false) → slotF bits R w b = Slt.no := by
  intro R
  suffices h : ∀ (R : List Rt) (s : Slt), (∀ r ∈ R, hit r bits w b = false) → R.foldl (slotUp bits w b) s = s from fun hR => h R _ hR
  intro R
  induction R with
  | nil => intro s _; rfl
  | cons r R ih =>
    intro s hR
    rw [List.foldl_cons, slotUp, if_neg (by rw [hR r (by simp)]; simp)]
    exact ih s fun x hx => hR x (by simp [hx])
/-- A route that ends behind a way goes it. -/
theorem hit_way {r : Rt} {bits : Int} {w : Wy} {b : Nat} (hw : w.ok) (hb : b < 16) (h : hit r bits w b = true) (hl : 0 < r.p.len) : w = wayAt r.p.key w.steps := by
  simp only [hit, Bool.and_eq_true, decide_eq_true_eq] at h
  obtain ⟨⟨h1, h2⟩, h3⟩ := h
  obtain ⟨_, _, h4⟩ := (pfits_iff _ _).1 h3
  have hle : 4 * (w.steps : Int) ≤ r.p.len := by rw [← h2]; unfold lastN; omega
  obtain ⟨s, k⟩ := w
  have hk := rset_cut hw.1 hb hw.2
  simp only at hk h4 hle ⊢
  rw [wayAt, ← h4, kcut_cut, show min r.p.len ((4 * s : Nat) : Int) = ((4 * s : Nat) : Int) by omega, hk]
theorem lastN_zero {p : Pfx} (h : p.len ≤ 0) : lastN p = 0 := by unfold lastN; omega
theorem slotF_new {bits : Int} {W : List Wy} {R : List Rt} (hh : Holds' bits W R) {w : Wy} {b : Nat} (hw : w.ok) (hb : b < 16) (hs : 0 < w.steps) (hn : w ∉ W) : slotF bits R w b = Slt.no :=
  slotF_none fun r hr => by
    cases he : hit r bits w b with
    | false => rfl
    | true =>
      have h' := he
      simp only [hit, Bool.and_eq_true, decide_eq_true_eq] at h'
      obtain ⟨⟨h1, h2⟩, h3⟩ := h'
      have hl : 0 < r.p.len := by
        rcases Int.lt_or_le 0 r.p.len with h | h
        · exact h
        · rw [lastN_zero h] at h2; omega
      have e := hit_way hw hb he hl
      exact absurd (e ▸ hh r hr h1 w.steps hs (by omega)) hn

section
variable {bits : Int} {W : List Wy} {R : List Rt} {w : Wy} {node b : Nat}
theorem next_in (hw : W[node]? = some w) (hb : b < 16) : ((nodes bits W R).getD node Nd.zero).nx b = nextF W w b := by
  rw [nodes_getD hw, nodeF, Nd.nx_mk' hb]
theorem next_ok (hW : WOk W) (hw : W[node]? = some w) (hb : b < 16) (hl : W.length ≤ 512) : nextO (nodes bits W R) node b = decide ((addW W (child w b)).length ≤ 512) := by
  rw [nextO, next_in hw hb, nodes_length]
  by_cases h : child w b ∈ W
  · rw [decide_eq_true ((nextF_pos hW).2 h), Bool.true_or, addW, if_pos h, decide_eq_true hl]
  · rw [decide_eq_false (fun h' => h ((nextF_pos hW).1 h')), Bool.false_or, addW, if_neg h, List.length_append]; simp; omega
theorem next_num (hW : WOk W) (hw : W[node]? = some w) (hb : b < 16) (hl : (addW W (child w b)).length ≤ 512) : nextN (nodes bits W R) node b = ((addW W (child w b)).idxOf (child w b) : Nat) := by
  rw [nextN, next_in hw hb, nodes_length]
  by_cases h : child w b ∈ W
  · rw [if_pos ((nextF_pos hW).2 h), addW, if_pos h, nextF, if_pos h]
  · rw [addW, if_neg h, List.length_append] at hl
    simp only [List.length_cons, List.length_nil] at hl
    rw [if_neg (fun h' => h ((nextF_pos hW).1 h')), if_neg (by omega), addW, if_neg h, List.idxOf_append, if_neg h]; simp
theorem next_list (hW : WOk W) (hw : W[node]? = some w) (hb : b < 16) (hs : w.steps < 31) (hh : Holds' bits W R) (hl : (addW W (child w b)).length ≤ 512) : nextL (nodes bits W R) node b = nodes bits (addW W (child w b)) R := by
  have hwm := List.mem_of_getElem? hw
  have hwk := hW.ok w hwm
  rw [nextL, next_in hw hb, nodes_length, nodes_getD hw]
  by_cases h : child w b ∈ W
  · rw [if_pos (.inl ((nextF_pos hW).2 h)), addW, if_pos h]
  · rw [addW, if_neg h] at hl
    simp only [List.length_append, List.length_cons, List.length_nil] at hl
    rw [if_neg (by rw [nextF_pos hW]; intro h'; rcases h' with h' | h'; exact h h'; omega), addW, if_neg h]
    have hck : (child w b).ok := ⟨by simp only [child]; omega, rset_full (by omega) hb hwk.2⟩
    have hnd : (W ++ [child w b]).Nodup := by have := addW_nodup (w := child w b) hW.nodup; rwa [addW, if_neg h] at this
    have nlt : node < W.length := (List.getElem?_eq_some_iff.1 hw).1
    refine List.ext_getElem? fun i => ?_
    rcases Nat.lt_trichotomy i W.length with hi | hi | hi
    · obtain ⟨v, hv⟩ : ∃ v, W[i]? = some v := ⟨W[i], by simp [hi]⟩
      have hvm := List.mem_of_getElem? hv
      have e2 : (W ++ [child w b])[i]? = some v := by rw [List.getElem?_append_left hi]; exact hv
      rw [nodes_get e2, List.getElem?_set]
      have nx : ∀ c, c < 16 → nextF (W ++ [child w b]) v c = if child v c = child w b then (W.length : Int) else nextF W v c := fun c hc => by
        unfold nextF
        by_cases h1 : child v c = child w b
        · rw [if_pos (by rw [h1]; simp), if_pos h1, h1, List.idxOf_append, if_neg h]; simp
        · rw [if_neg h1]
          by_cases h2 : child v c ∈ W
          · rw [if_pos (by simp [h2]), if_pos h2, List.idxOf_append, if_pos h2]
          · rw [if_neg (by simp [h1, h2]), if_neg h2]
      split
      · rename_i e
        subst e
        rw [if_pos (by simp; omega)]
        obtain rfl : w = v := Option.some.inj (hw.symm.trans hv)
        refine congrArg some (Nd.ext' (fun c hc => ?_) fun c hc => ?_)
        · rw [Nd.sl_setNx, nodeF, nodeF, Nd.sl_mk' hc, Nd.sl_mk' hc]
        · rw [Nd.nx_set hb, nodeF, nodeF, Nd.nx_mk' hc, Nd.nx_mk' hc, nx c hc]
          by_cases hbc : b = c
          · subst hbc; rw [if_pos rfl, if_pos rfl]
          · rw [if_neg hbc, if_neg fun e => hbc (child_inj hwk hwk hc hb e).2.symm]
      · rename_i e
        rw [List.getElem?_append_left (by simpa using hi), nodes_get hv]
        refine congrArg some (Nd.ext' (fun c hc => ?_) fun c hc => ?_)
        · rw [nodeF, nodeF, Nd.sl_mk' hc, Nd.sl_mk' hc]
        · rw [nodeF, nodeF, Nd.nx_mk' hc, Nd.nx_mk' hc, nx c hc, if_neg fun e' => ?_]
          obtain ⟨rfl, _⟩ := child_inj (hW.ok v hvm) hwk hc hb e'
          exact e (get_inj hW.nodup hw hv)
    · have e2 : (W ++ [child w b])[i]? = some (child w b) := by rw [hi]; simp
      rw [nodes_get e2, List.getElem?_set, if_neg (by omega), List.getElem?_append_right (by simp [hi])]
      simp only [nodes_length, hi, Nat.sub_self, List.getElem?_cons_zero]
      refine congrArg some (Nd.ext' (fun c hc => ?_) fun c hc => ?_)
      · rw [Nd.sl_zero, nodeF, Nd.sl_mk' hc, slotF_new hh hck hc (by simp [child]) h]
      · rw [Nd.nx_zero, nodeF, Nd.nx_mk' hc, nextF, if_neg]
        intro hm
        rcases List.mem_append.1 hm with hm | hm
        · have := hW.up _ hm (w.steps + 1) (by simp only [child]; omega)
          refine h ?_
          have e3 : wayAt (child (child w b) c).key (w.steps + 1) = child w b := by
            have := rset_cut (k := (child w b).key) (n := w.steps + 1) (b := c) hck.1 hc hck.2
            simp only [child, wayAt] at this ⊢
            rw [this]
          rwa [e3] at this
        · have := congrArg Wy.steps (List.mem_singleton.1 hm)
          simp [child] at this
    · rw [List.getElem?_eq_none (by simp; omega), List.getElem?_eq_none (by simp; omega)]
end

/-! The slots that a route fits. -/
/-- How many bits of a route's last step it leaves open. -/
def openN (p : Pfx) : Nat := (4 - (p.len - 4 * (lastN p : Int))).toNat
theorem openN_eq {p : Pfx} (h : pmay p = true) : openN p ≤ 4 ∧ (p.len : Int) = 4 * (lastN p : Int) + 4 - (openN p : Int) := by
  obtain ⟨_, h2, h3, _⟩ := (pmay_iff p).1 h
  unfold openN lastN; omega
theorem nib_range {x y e : Nat} (hx : x < 16) (hy : y < 16) (he : e ≤ 4) (h0 : x % 2 ^ e = 0) : (x ≤ y ∧ y < x + 2 ^ e) ↔ ∀ j, e ≤ j → j < 4 → y.testBit j = x.testBit j := by
  have hp : 0 < 2 ^ e := Nat.two_pow_pos e
  have hq := Nat.div_add_mod x (2 ^ e)
  have hr := Nat.div_add_mod y (2 ^ e)
  have hm := Nat.mod_lt y hp
  have key : (x ≤ y ∧ y < x + 2 ^ e) ↔ y / 2 ^ e = x / 2 ^ e := by
    constructor
    · rintro ⟨h1, h2⟩
      apply Nat.le_antisymm
      · apply Nat.le_of_lt_succ
        apply Nat.div_lt_of_lt_mul
        rw [Nat.mul_succ]; omega
      · exact Nat.div_le_div_right h1
    · intro h
      rw [h] at hr; omega
  rw [key]
  constructor
  · intro h j h1 h2
    have := congrArg (fun z => z.testBit (j - e)) h
    simp only [Nat.testBit_div_two_pow] at this
    rwa [show j - e + e = j by omega] at this
  · intro h
    refine Nat.eq_of_testBit_eq fun j => ?_
    rw [Nat.testBit_div_two_pow, Nat.testBit_div_two_pow]
    rcases Nat.lt_or_ge (j + e) 4 with hj | hj
    · exact h _ (by omega) hj
    · have hp : 2 ^ 4 ≤ 2 ^ (j + e) := Nat.pow_le_pow_right (by decide) hj
      rw [Nat.testBit_lt_two_pow (Nat.lt_of_lt_of_le hx hp), Nat.testBit_lt_two_pow (Nat.lt_of_lt_of_le hy hp)]
theorem kst_open {p : Pfx} (h : pmay p = true) : kst p.key (lastN p) % 2 ^ openN p = 0 := by
  obtain ⟨h1, h2⟩ := openN_eq h
  have hb := (pmay_bits p).1 h
  have hl := lastN_lt h
  refine Nat.eq_of_testBit_eq fun j => ?_
  rw [Nat.testBit_mod_two_pow, Nat.zero_testBit]
  by_cases hj : j < openN p
  · rw [kst_bit _ _ _ hl (by omega), hb.2.2.2 _ (by omega) (by omega)]; simp
  · simp [hj]
theorem kst_room {p : Pfx} (h : pmay p = true) : kst p.key (lastN p) + 2 ^ openN p ≤ 16 := by
  have h0 := kst_open h
  have hlt := kst_lt p.key (lastN p)
  obtain ⟨h1, _⟩ := openN_eq h
  have := Nat.div_add_mod (kst p.key (lastN p)) (2 ^ openN p)
  generalize kst p.key (lastN p) = x at *
  generalize openN p = e at *
  match e, h1 with
  | 0, _ => simp; omega
  | 1, _ => simp at *; omega
  | 2, _ => simp at *; omega
  | 3, _ => simp at *; omega
  | 4, _ => simp at *; omega
theorem hit_iff {r : Rt} {bits : Int} {w : Wy} {b : Nat} (hr : pmay r.p = true) (hbits : r.p.bits = bits) (hw : w.ok) (hb : b < 16) :
    hit r bits w b = true ↔ w = wayAt r.p.key (lastN r.p) ∧ kst r.p.key (lastN r.p) ≤ b ∧ b < kst r.p.key (lastN r.p) + 2 ^ openN r.p := by
  obtain ⟨he1, he2⟩ := openN_eq hr
  have hpb := (pmay_bits r.p).1 hr
  have hl := lastN_lt hr
  rw [nib_range (kst_lt _ _) hb he1 (kst_open hr)]
  constructor
  · intro h
    have hw' : w = wayAt r.p.key (lastN r.p) := by
      have h' := h
      simp only [hit, Bool.and_eq_true, decide_eq_true_eq] at h'
      obtain ⟨⟨h1, h2⟩, h3⟩ := h'
      rcases Int.lt_or_le 0 r.p.len with hl | hl
      · rw [h2]; exact hit_way hw hb h hl
      · have h0 := lastN_zero hl
        rw [h0, wayAt_zero]
        obtain ⟨s, k⟩ := w
        have hs : s = 0 := by rw [h0] at h2; exact h2.symm
        subst hs
        have := hw.2
        simp only [Nat.mul_zero] at this
        rw [kcut_none _ _ (by decide)] at this
        rw [root, ← this]
    refine ⟨hw', fun j h1 h2 => ?_⟩
    subst hw'
    simp only [hit, Bool.and_eq_true, decide_eq_true_eq] at h
    obtain ⟨_, _, h4⟩ := (pfits_iff _ _).1 h.2
    have hm := congrArg (fun k : Key => k.getMsbD (4 * lastN r.p + 3 - j)) h4
    simp only [kcut_msb] at hm
    rw [decide_eq_true (by omega), Bool.true_and] at hm
    rw [kst_bit _ _ _ hl h2, ← hm]
    have e := rset_msb (k := (wayAt r.p.key (lastN r.p)).key) (n := lastN r.p) hl hb (wayAt_cut _ _) (4 * lastN r.p + 3 - j) (by omega)
    rw [if_neg (by omega), if_pos (by omega)] at e
    have e' : (rset (wayAt r.p.key (lastN r.p)).key (wayAt r.p.key (lastN r.p)).steps b).getMsbD (4 * lastN r.p + 3 - j) = b.testBit (4 * lastN r.p + 3 - (4 * lastN r.p + 3 - j)) := e
    rw [e']; congr 1; omega
  · rintro ⟨rfl, h⟩
    simp only [hit, Bool.and_eq_true, decide_eq_true_eq]
    refine ⟨⟨hbits, rfl⟩, (pfits_iff _ _).2 ⟨hr, ?_, ?_⟩⟩
    · have hf := rset_full (k := (wayAt r.p.key (lastN r.p)).key) (n := lastN r.p) hl hb (wayAt_cut _ _)
      refine (kcut_self_iff _ _).2 fun i hi h2 => ?_
      refine (kcut_self_iff _ _).1 hf i hi ?_
      have := hpb.1; have h3 := hpb.2.2.1; have h4 := hpb.2.1
      have : (lastN r.p : Int) ≤ (r.p.bits - 1) / 4 := by unfold lastN; omega
      omega
    · refine key_ext fun i hi => ?_
      have hm := rset_msb (k := (wayAt r.p.key (lastN r.p)).key) (n := lastN r.p) hl hb (wayAt_cut _ _) i hi
      have hm' : (rset (wayAt r.p.key (lastN r.p)).key (wayAt r.p.key (lastN r.p)).steps b).getMsbD i = _ := hm
      rw [kcut_msb, hm']
      by_cases h1 : (i : Int) < r.p.len
      · rw [decide_eq_true h1, Bool.true_and]
        by_cases h2 : i < 4 * lastN r.p
        · rw [if_pos h2]; simp only [wayAt]; rw [cut_nat_msb, decide_eq_true h2, Bool.true_and]
        · rw [if_neg h2, if_pos (by omega), h _ (by omega) (by omega), kst_bit _ _ _ hl (by omega)]; congr 1; omega
      · rw [decide_eq_false h1, Bool.false_and, hpb.2.2.2 i hi (by omega)]

/-- The nodes where a route has been laid into the slots ahead of f. -/
def nodesP (bits : Int) (W : List Wy) (R : List Rt) (r : Rt) (f : Nat) : List Nd := W.map fun w =>
  if w = wayAt r.p.key (lastN r.p) then Nd.mk' (fun b => if b < f then slotF bits (R ++ [r]) w b else slotF bits R w b) (nextF W w) else nodeF bits W R w
@[simp] theorem nodesP_length (bits : Int) (W : List Wy) (R : List Rt) (r : Rt) (f : Nat) : (nodesP bits W R r f).length = W.length := by simp [nodesP]
section
variable {bits : Int} {W : List Wy} {R : List Rt} {r : Rt} {f : Nat}
theorem slot_miss {w : Wy} {b : Nat} (h : hit r bits w b = false) : slotF bits (R ++ [r]) w b = slotF bits R w b := by
  rw [slotF_snoc, slotUp, if_neg (by rw [h]; simp)]
theorem nodesP_start (hW : WOk W) (hr : pmay r.p = true) (hb : r.p.bits = bits) : nodesP bits W R r (kst r.p.key (lastN r.p)) = nodes bits W R := by
  refine List.map_congr_left fun w hw => ?_
  split
  · rename_i e
    refine Nd.ext' (fun b hb' => ?_) fun b hb' => by rw [nodeF, Nd.nx_mk' hb', Nd.nx_mk' hb']
    rw [nodeF, Nd.sl_mk' hb', Nd.sl_mk' hb']
    split
    · rename_i hlt
      refine slot_miss ?_
      cases hh : hit r bits w b with
      | false => rfl
      | true => have := (hit_iff hr hb (hW.ok w hw) hb').1 hh; omega
    · rfl
  · rfl
theorem nodesP_end (hW : WOk W) (hr : pmay r.p = true) (hb : r.p.bits = bits) : nodesP bits W R r (kst r.p.key (lastN r.p) + 2 ^ openN r.p) = nodes bits W (R ++ [r]) := by
  refine List.map_congr_left fun w hw => ?_
  split
  · rename_i e
    refine Nd.ext' (fun b hb' => ?_) fun b hb' => by rw [nodeF, Nd.nx_mk' hb', Nd.nx_mk' hb']
    rw [nodeF, Nd.sl_mk' hb', Nd.sl_mk' hb']
    split
    · rfl
    · rename_i hlt
      refine (slot_miss ?_).symm
      cases hh : hit r bits w b with
      | false => rfl
      | true => have := (hit_iff hr hb (hW.ok w hw) hb').1 hh; omega
  · rename_i e
    refine Nd.ext' (fun b hb' => ?_) fun b hb' => by rw [nodeF, nodeF, Nd.nx_mk' hb', Nd.nx_mk' hb']
    rw [nodeF, nodeF, Nd.sl_mk' hb', Nd.sl_mk' hb']
    refine (slot_miss ?_).symm
    cases hh : hit r bits w b with
    | false => rfl
    | true => exact absurd ((hit_iff hr hb (hW.ok w hw) hb').1 hh).1 e
theorem nodesP_get (f : Nat) {i : Nat} (hi : W[i]? = some (wayAt r.p.key (lastN r.p))) : (nodesP bits W R r f)[i]? = some (Nd.mk' (fun b => if b < f then slotF bits (R ++ [r]) (wayAt r.p.key (lastN r.p)) b else slotF bits R (wayAt r.p.key (lastN r.p)) b) (nextF W (wayAt r.p.key (lastN r.p)))) := by
  simp [nodesP, hi]
theorem nodesP_slot {i : Nat} (hi : W[i]? = some (wayAt r.p.key (lastN r.p))) (hf : f < 16) {n : Nd} (hn : (nodesP bits W R r f)[i]? = some n) : n.sl f = slotF bits R (wayAt r.p.key (lastN r.p)) f := by
  rw [nodesP_get f hi] at hn
  obtain rfl := (Option.some.inj hn).symm
  rw [Nd.sl_mk' hf, if_neg (by omega)]
theorem nodesP_keep (hW : WOk W) (hf : ¬ (slotF bits R (wayAt r.p.key (lastN r.p)) f).len ≤ r.p.len) : nodesP bits W R r (f + 1) = nodesP bits W R r f := by
  refine List.map_congr_left fun w hw => ?_
  split
  · rename_i e
    refine Nd.ext' (fun b hb' => ?_) fun b hb' => by rw [Nd.nx_mk' hb', Nd.nx_mk' hb']
    rw [Nd.sl_mk' hb', Nd.sl_mk' hb']
    by_cases h1 : b = f
    · subst h1
      rw [if_pos (by omega), if_neg (by omega), slotF_snoc, slotUp, if_neg]
      subst e; intro h; exact hf h.2
    · by_cases h2 : b < f
      · rw [if_pos (by omega), if_pos h2]
      · rw [if_neg (by omega), if_neg h2]
  · rfl
theorem nodesP_put (hW : WOk W) (hr : pmay r.p = true) (hb : r.p.bits = bits) {i : Nat} (hi : W[i]? = some (wayAt r.p.key (lastN r.p))) {n : Nd} (hn : (nodesP bits W R r f)[i]? = some n)
    (h1 : kst r.p.key (lastN r.p) ≤ f) (h2 : f < kst r.p.key (lastN r.p) + 2 ^ openN r.p) (hf : (slotF bits R (wayAt r.p.key (lastN r.p)) f).len ≤ r.p.len) :
    (nodesP bits W R r f).set i (n.setSl f ⟨r.p.len + 1, r.hop⟩) = nodesP bits W R r (f + 1) := by
  have h16 := kst_room hr
  have hwm := List.mem_of_getElem? hi
  rw [nodesP_get f hi] at hn
  obtain rfl := (Option.some.inj hn).symm
  refine List.ext_getElem? fun j => ?_
  rw [List.getElem?_set]
  split
  · rename_i e
    subst e
    have hil := (List.getElem?_eq_some_iff.1 hi).1
    rw [if_pos (by simpa using hil), nodesP_get (f + 1) hi]
    refine congrArg some (Nd.ext' (fun b hb' => ?_) fun b hb' => by rw [Nd.nx_setSl, Nd.nx_mk' hb', Nd.nx_mk' hb'])
    rw [Nd.sl_set (by omega), Nd.sl_mk' hb', Nd.sl_mk' hb']
    by_cases h3 : f = b
    · subst h3
      rw [if_pos rfl, if_pos (by omega), slotF_snoc, slotUp, if_pos ⟨(hit_iff hr hb (hW.ok _ hwm) hb').2 ⟨rfl, h1, h2⟩, hf⟩]
    · rw [if_neg h3]
      by_cases h4 : b < f
      · rw [if_pos h4, if_pos (by omega)]
      · rw [if_neg h4, if_neg (by omega)]
  · rename_i e
    rcases Nat.lt_or_ge j W.length with hj | hj
    · obtain ⟨v, hv⟩ : ∃ v, W[j]? = some v := ⟨W[j], by simp [hj]⟩
      have hne : v ≠ wayAt r.p.key (lastN r.p) := fun e' => by subst e'; exact e (get_inj hW.nodup hi hv)
      simp [nodesP, hv, hne]
    · rw [List.getElem?_eq_none (by simpa using hj), List.getElem?_eq_none (by simpa using hj)]
end

theorem max_last {p : Pfx} (h : 0 ≤ p.len) : max (0 : Int) ((p.len - 1).tdiv 4) = ((lastN p : Nat) : Int) := by
  unfold lastN
  rcases Int.lt_or_le 0 p.len with h1 | h1
  · rw [Int.tdiv_eq_ediv_of_nonneg (by omega)]; omega
  · obtain h2 : p.len = 0 := by omega
    rw [h2]; decide
theorem tdiv_rng {l : Int} (h0 : 0 ≤ l) (h1 : l ≤ 128) : 0 ≤ (l - 1).tdiv 4 ∧ (l - 1).tdiv 4 ≤ 31 := by
  rcases Int.lt_or_le 0 l with h | h
  · rw [Int.tdiv_eq_ediv_of_nonneg (by omega)]; omega
  · obtain h2 : l = 0 := by omega
    rw [h2]; decide
theorem addTo_last {W : List Wy} (hW : WOk W) (p : Pfx) (i : Nat) : wayAt p.key i ∈ addTo W p i := by
  rcases Nat.eq_zero_or_pos i with e | e
  · subst e; rw [wayAt_zero, addTo_zero]; exact List.mem_of_getElem? hW.root
  · exact addTo_mem.2 (.inr ⟨i, e, Nat.le_refl _, rfl⟩)

/-! A whole table. -/
theorem Holds'.mono {bits : Int} {W W' : List Wy} {R : List Rt} (h : Holds' bits W R) (hp : W <+: W') : Holds' bits W' R := fun r hr hb s h1 h2 => hp.subset (h r hr hb s h1 h2)
theorem holds_ways {bits : Int} : ∀ (n : Nat) (t : List Rt), Holds' bits (waysF bits (t.take n)) (t.take n)
  | 0, t => by simp [Holds']
  | n + 1, t => by
    rcases Nat.lt_or_ge n t.length with h | h
    · rw [List.take_succ_eq_append_getElem h, ways_snoc]
      intro r hr hb s h1 h2
      rcases List.mem_append.1 hr with hr | hr
      · exact (holds_ways n t).mono addWs_pre r hr hb s h1 h2
      · obtain rfl := List.mem_singleton.1 hr
        rw [addWs, if_pos hb]; exact addTo_mem.2 (.inr ⟨s, h1, h2, rfl⟩)
    · rw [List.take_of_length_le (by omega)]
      have := holds_ways (bits := bits) n t
      rwa [List.take_of_length_le h] at this
theorem ways_take {bits : Int} {t : List Rt} {i : Nat} {r : Rt} (h : t[i]? = some r) : waysF bits (t.take (i + 1)) = addWs (waysF bits (t.take i)) r bits := by
  obtain ⟨hi, rfl⟩ := List.getElem?_eq_some_iff.1 h
  rw [List.take_succ_eq_append_getElem hi, ways_snoc]
theorem ways_mono {bits : Int} {t : List Rt} : ∀ {i j : Nat}, i ≤ j → waysF bits (t.take i) <+: waysF bits (t.take j) := by
  intro i j hij
  induction j with
  | zero => obtain rfl : i = 0 := by omega
            exact List.prefix_rfl
  | succ j ih =>
    rcases Nat.lt_or_ge j i with h | h
    · obtain rfl : i = j + 1 := by omega
      exact List.prefix_rfl
    · refine (ih h).trans ?_
      rcases Nat.lt_or_ge j t.length with h' | h'
      · rw [List.take_succ_eq_append_getElem h', ways_snoc]; exact addWs_pre
      · rw [List.take_of_length_le (by omega), List.take_of_length_le (by omega)]
        exact List.prefix_rfl
theorem nodes_skip {bits : Int} {W : List Wy} {R : List Rt} {r : Rt} (h : r.p.bits ≠ bits) : nodes bits W (R ++ [r]) = nodes bits W R := by
  refine List.map_congr_left fun w hw => ?_
  refine Nd.ext' (fun b hb' => ?_) fun b hb' => by rw [nodeF, nodeF, Nd.nx_mk' hb', Nd.nx_mk' hb']
  rw [nodeF, nodeF, Nd.sl_mk' hb', Nd.sl_mk' hb', slot_miss]
  simp [hit, h]
theorem nodes_root (bits : Int) : nodes bits [root] [] = [Nd.zero] := by
  have e : nodeF bits [root] [] root = Nd.zero := Nd.ext' (fun b hb => by rw [nodeF, Nd.sl_mk' hb, Nd.sl_zero]; rfl) fun b hb => by
    rw [nodeF, Nd.nx_mk' hb, Nd.nx_zero, nextF, if_neg]
    intro h
    have := congrArg Wy.steps (List.mem_singleton.1 h)
    simp [child, root] at this
  simp [nodes, e]
theorem tr_may {t : List Rt} (h : tright t = true) {r : Rt} (hr : r ∈ t) : pmay r.p = true := by
  obtain ⟨i, hi⟩ := List.mem_iff_getElem?.1 hr
  have hlt := (List.getElem?_eq_some_iff.1 hi).1
  cases hm : pmay r.p with
  | true => rfl
  | false => rw [tright_no hlt (okAt_may hi hm)] at h; cases h
theorem tr_len {t : List Rt} (h : tright t = true) : t.length ≤ 256 := by
  rcases Nat.lt_or_ge 256 t.length with h1 | h1
  · rw [tright_long h1] at h; cases h
  · exact h1
/-- The reference's nodes, slot by slot: of node w the slots ahead of b are laid, and of slot b what the routes R tell, and the ways ahead of m. -/
def nextG (W : List Wy) (w : Wy) (b m : Nat) : Int := if child w b ∈ W.take m then (W.idxOf (child w b) : Nat) else 0
theorem nextG_all {W : List Wy} {w : Wy} {b m : Nat} (h : W.length ≤ m) : nextG W w b m = nextF W w b := by
  rw [nextG, List.take_of_length_le h]; rfl
theorem nextG_one {W : List Wy} (hW : WOk W) {w : Wy} {b : Nat} : nextG W w b 1 = 0 := by
  rw [nextG, if_neg]
  intro h
  obtain ⟨x, l, e⟩ : ∃ x l, W = x :: l := by
    cases hx : W with
    | nil => have := hW.ne; rw [hx] at this; simp at this
    | cons x l => exact ⟨x, l, rfl⟩
  have hr := hW.root
  subst e
  simp only [List.take_succ_cons, List.take_zero, List.mem_singleton] at h
  simp only [List.getElem?_cons_zero, Option.some.injEq] at hr
  have := congrArg Wy.steps (h.trans hr)
  simp [child, root] at this
theorem nextG_succ {W : List Wy} (hW : WOk W) {w v : Wy} {b m : Nat} (hm : W[m]? = some v) : nextG W w b (m + 1) = if v.steps = w.steps + 1 ∧ v.key = rset w.key w.steps b then (m : Int) else nextG W w b m := by
  have e : W.take (m + 1) = W.take m ++ [v] := by
    obtain ⟨hi, rfl⟩ := List.getElem?_eq_some_iff.1 hm
    exact List.take_succ_eq_append_getElem hi
  have hc : (v.steps = w.steps + 1 ∧ v.key = rset w.key w.steps b) ↔ v = child w b := by
    obtain ⟨s, k⟩ := v
    simp [child]
  unfold nextG
  rw [e]
  by_cases h : v = child w b
  · rw [if_pos (hc.2 h), if_pos (by simp [h]), ← h, get_idx hW.nodup hm]
  · rw [if_neg (fun h' => h (hc.1 h'))]
    have : child w b ∈ W.take m ++ [v] ↔ child w b ∈ W.take m := by
      simp [List.mem_append, show ¬ child w b = v from fun h' => h h'.symm]
    by_cases h2 : child w b ∈ W.take m
    · rw [if_pos (this.2 h2), if_pos h2]
    · rw [if_neg (fun h' => h2 (this.1 h')), if_neg h2]
def nodeB (bits : Int) (W : List Wy) (R : List Rt) (w : Wy) (b : Nat) : Nd := Nd.mk' (fun c => if c < b then slotF bits R w c else Slt.no) (fun c => if c < b then nextF W w c else 0)
theorem nodeB_zero (bits : Int) (W : List Wy) (R : List Rt) (w : Wy) : nodeB bits W R w 0 = Nd.zero := Nd.ext' (fun c hc => by rw [nodeB, Nd.sl_mk' hc, if_neg (by omega), Nd.sl_zero]) fun c hc => by rw [nodeB, Nd.nx_mk' hc, if_neg (by omega), Nd.nx_zero]
theorem nodeB_all (bits : Int) (W : List Wy) (R : List Rt) (w : Wy) : nodeB bits W R w 16 = nodeF bits W R w := Nd.ext' (fun c hc => by rw [nodeB, nodeF, Nd.sl_mk' hc, Nd.sl_mk' hc, if_pos hc]) fun c hc => by rw [nodeB, nodeF, Nd.nx_mk' hc, Nd.nx_mk' hc, if_pos hc]
theorem nodeB_start {bits : Int} {W : List Wy} {R : List Rt} {w : Wy} {b : Nat} (hb : b < 16) : (nodeB bits W R w b).setSl b (slotF bits [] w b) = nodeB bits W R w b := Nd.ext' (fun c hc => by
    rw [Nd.sl_set hb]; split
    · rename_i e; subst e; rw [nodeB, Nd.sl_mk' hc, if_neg (by omega)]; rfl
    · rfl) fun c _ => by rw [Nd.nx_setSl]
theorem nodeB_next {bits : Int} {W : List Wy} (hW : WOk W) {R : List Rt} {w : Wy} {b : Nat} (hb : b < 16) : ((nodeB bits W R w b).setSl b (slotF bits R w b)).setNx b (nextG W w b 1) = (nodeB bits W R w b).setSl b (slotF bits R w b) := Nd.ext' (fun c _ => by rw [Nd.sl_setNx]) fun c hc => by
    rw [Nd.nx_set hb]; split
    · rename_i e; subst e; rw [nextG_one hW, Nd.nx_setSl, nodeB, Nd.nx_mk' hc, if_neg (by omega)]
    · rfl
theorem nodeB_succ {bits : Int} {W : List Wy} {R : List Rt} {w : Wy} {b : Nat} (hb : b < 16) : ((nodeB bits W R w b).setSl b (slotF bits R w b)).setNx b (nextF W w b) = nodeB bits W R w (b + 1) := Nd.ext' (fun c hc => by
    rw [Nd.sl_setNx, Nd.sl_set hb, nodeB, nodeB, Nd.sl_mk' hc, Nd.sl_mk' hc]
    by_cases h : b = c
    · subst h; rw [if_pos rfl, if_pos (by omega)]
    · rw [if_neg h]
      by_cases h2 : c < b
      · rw [if_pos h2, if_pos (by omega)]
      · rw [if_neg h2, if_neg (by omega)]) fun c hc => by
    rw [Nd.nx_set hb, Nd.nx_setSl, nodeB, nodeB, Nd.nx_mk' hc, Nd.nx_mk' hc]
    by_cases h : b = c
    · subst h; rw [if_pos rfl, if_pos (by omega)]
    · rw [if_neg h]
      by_cases h2 : c < b
      · rw [if_pos h2, if_pos (by omega)]
      · rw [if_neg h2, if_neg (by omega)]
theorem setSl_setSl {n : Nd} {b : Nat} {x y : Slt} (hb : b < 16) : (n.setSl b x).setSl b y = n.setSl b y := Nd.ext' (fun c _ => by
    rw [Nd.sl_set hb, Nd.sl_set hb, Nd.sl_set hb]; split <;> rfl) fun c _ => rfl
theorem setNx_setNx {n : Nd} {b : Nat} {x y : Int} (hb : b < 16) : (n.setNx b x).setNx b y = n.setNx b y := Nd.ext' (fun c _ => rfl) fun c _ => by
    rw [Nd.nx_set hb, Nd.nx_set hb, Nd.nx_set hb]; split <;> rfl
/-- A table as a trie: what Build answers. -/
def buildE (t : List Rt) (bits : Int) : Int := if tright t = true ∧ (bits = 32 ∨ bits = 128) then (if (waysF bits t).length ≤ 512 then 0 else 5) else 1
def buildB (t : List Rt) (bits : Int) : Int := if buildE t bits = 0 then bits else 0
def buildN (t : List Rt) (bits : Int) : List Nd := if buildE t bits = 0 then nodes bits (waysF bits t) t else []
theorem buildE_arg {t : List Rt} {bits : Int} (h : ¬ (tright t = true ∧ (bits = 32 ∨ bits = 128))) : buildE t bits = 1 ∧ buildB t bits = 0 ∧ buildN t bits = [] := by
  have e : buildE t bits = 1 := by rw [buildE, if_neg h]
  exact ⟨e, by rw [buildB, e]; rfl, by rw [buildN, e]; rfl⟩
theorem buildE_full {t : List Rt} {bits : Int} (h : tright t = true ∧ (bits = 32 ∨ bits = 128)) (h2 : ¬ (waysF bits t).length ≤ 512) : buildE t bits = 5 ∧ buildB t bits = 0 ∧ buildN t bits = [] := by
  have e : buildE t bits = 5 := by rw [buildE, if_pos h, if_neg h2]
  exact ⟨e, by rw [buildB, e]; rfl, by rw [buildN, e]; rfl⟩
theorem buildE_ok {t : List Rt} {bits : Int} (h : tright t = true ∧ (bits = 32 ∨ bits = 128)) (h2 : (waysF bits t).length ≤ 512) : buildE t bits = 0 ∧ buildB t bits = bits ∧ buildN t bits = nodes bits (waysF bits t) t := by
  have e : buildE t bits = 0 := by rw [buildE, if_pos h, if_pos h2]
  exact ⟨e, by rw [buildB, e]; rfl, by rw [buildN, e]; rfl⟩
end Go.Kb
