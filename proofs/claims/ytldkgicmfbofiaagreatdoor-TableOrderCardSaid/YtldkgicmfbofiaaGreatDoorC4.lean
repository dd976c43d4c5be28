/- A table becomes a trie, route by route. No program in sight. -/
import Derived.Test.YtldkgicmfbofiaaGreatDoorC3
import Derived.Test.YtldkgicmfbofiaaGreatDoorC2
import Derived.Test.YtldkgicmfbofiaaGreatDoorC1
import Derived.Lib.AppendZerosOnto
import Derived.Lib.Overlaps

set_option linter.unusedSimpArgs false
set_option linter.unusedVariables false
namespace Go.Kb

theorem idx_get {W : List Wy} {w : Wy} (h : w ∈ W) : W[W.idxOf w]? = some w := by
  have hl := List.idxOf_lt_length_iff.2 h
  rw [List.getElem?_eq_getElem hl, List.getElem_idxOf]
theorem idx_lt {W : List Wy} {w : Wy} (h : w ∈ W) : W.idxOf w < W.length := List.idxOf_lt_length_iff.2 h
theorem get_idx {W : List Wy} (hn : W.Nodup) {i : Nat} {w : Wy} (h : W[i]? = some w) : W.idxOf w = i := by
  obtain ⟨hi, rfl⟩ := List.getElem?_eq_some_iff.1 h
  exact List.Nodup.idxOf_getElem hn i hi
theorem get_inj {W : List Wy} (hn : W.Nodup) {i j : Nat} {w : Wy} (h : W[i]? = some w) (h' : W[j]? = some w) : i = j := by
  rw [← get_idx hn h, get_idx hn h']

def nextO (ns : List Nd) (node four : Nat) : Bool := decide (0 < (ns.getD node Nd.zero).nx four) || decide (ns.length < 512)
def nextN (ns : List Nd) (node four : Nat) : Int := if 0 < (ns.getD node Nd.zero).nx four then (ns.getD node Nd.zero).nx four else if 512 ≤ ns.length then 0 else ns.length
def nextL (ns : List Nd) (node four : Nat) : List Nd := if 0 < (ns.getD node Nd.zero).nx four ∨ 512 ≤ ns.length then ns else (ns ++ [Nd.zero]).set node ((ns.getD node Nd.zero).setNx four ns.length)

def nodes (bits : Int) (W : List Wy) (R : List Rt) : List Nd := W.map (nodeF bits W R)
@[simp] theorem nodes_length (bits : Int) (W : List Wy) (R : List Rt) : (nodes bits W R).length = W.length := by simp [nodes]
theorem nodes_get {bits : Int} {W : List Wy} {R : List Rt} {i : Nat} {w : Wy} (h : W[i]? = some w) : (nodes bits W R)[i]? = some (nodeF bits W R w) := by simp [nodes, h]
theorem nodes_getD {bits : Int} {W : List Wy} {R : List Rt} {i : Nat} {w : Wy} (h : W[i]? = some w) : (nodes bits W R).getD i Nd.zero = nodeF bits W R w := by
  rw [List.getD_eq_getElem?_getD, nodes_get h]; rfl

theorem nextF_pos {W : List Wy} (hW : WOk W) {w : Wy} {b : Nat} : 0 < nextF W w b ↔ child w b ∈ W := by
  unfold nextF; split
  · rename_i h
    refine ⟨fun _ => h, fun _ => ?_⟩
    rcases Nat.eq_zero_or_pos (W.idxOf (child w b)) with e | e
    · have h1 := idx_get h
      rw [e, hW.root] at h1
      have := congrArg Wy.steps (Option.some.inj h1)
      simp [child, root] at this
    · exact_mod_cast e
  · rename_i h; exact ⟨fun h' => absurd h' (by decide), fun h' => absurd h' h⟩
theorem nextF_range {W : List Wy} {w : Wy} {b : Nat} (h0 : 0 < W.length) : 0 ≤ nextF W w b ∧ nextF W w b < W.length := by
  unfold nextF; split
  · rename_i h; have := idx_lt h; omega
  · omega

theorem slotF_none {bits : Int} {w : Wy} {b : Nat} : ∀ {R : List Rt}, (∀ r ∈ R, hit r bits w b = false) → slotF bits R w b = Slt.no := by
  intro R
  suffices h : ∀ (R : List Rt) (s : Slt), (∀ r ∈ R, hit r bits w b = false) → R.foldl (slotUp bits w b) s = s from fun hR => h R _ hR
  intro R
  induction R with
  | nil => intro s _; rfl
  | cons r R ih =>
    intro s hR
    rw [List.foldl_cons, slotUp, if_neg (by rw [hR r (by simp)]; simp)]
    exact ih s fun x hx => hR x (by simp [hx])
theorem hit_way {r : Rt} {bits : Int} {w : Wy} {b : Nat} (hw : w.ok) (hb : b < 16) (h : hit r bits w b = true) (hl : 0 < r.p.len) : w = wayAt r.p.key w.steps := by
  simp only [hit, Bool.and_eq_true, decide_eq_true_eq] at h
  obtain ⟨⟨h1, h2⟩, h3⟩ := h
  obtain ⟨_, _, h4⟩ := (pfits_iff _ _).1 h3
  have hle : 4 * (w.steps : Int) ≤ r.p.len := by rw [← h2]; unfold lastN; omega
  obtain ⟨s, k⟩ := w
  have hk := rset_cut hw.1 hb hw.2
  simp only at hk h4 hle ⊢
  rw [wayAt, ← h4, kcut_cut, show min r.p.len ((4 * s : Nat) : Int) = ((4 * s : Nat) : Int) by omega, hk]
theorem lastN_zero {p : Pfx} (h : p.len ≤ 0) : lastN p = 0 := by unfold lastN; omega
theorem slotF_new {bits : Int} {W : List Wy} {R : List Rt} (hh : Holds' bits W R) {w : Wy} {b : Nat} (hw : w.ok) (hb : b < 16) (hs : 0 < w.steps) (hn : w ∉ W) : slotF bits R w b = Slt.no :=
  slotF_none fun r hr => by
    cases he : hit r bits w b with
    | false => rfl
    | true =>
      have h' := he
      simp only [hit, Bool.and_eq_true, decide_eq_true_eq] at h'
      obtain ⟨⟨h1, h2⟩, h3⟩ := h'
      have hl : 0 < r.p.len := by
        rcases Int.lt_or_le 0 r.p.len with h | h
        · exact h
        · rw [lastN_zero h] at h2; omega
      have e := hit_way hw hb he hl
      exact absurd (e ▸ hh r hr h1 w.steps hs (by omega)) hn

section
variable {bits : Int} {W : List Wy} {R : List Rt} {w : Wy} {node b : Nat}
theorem next_in (hw : W[node]? = some w) (hb : b < 16) : ((nodes bits W R).getD node Nd.zero).nx b = nextF W w b := by
  rw [nodes_getD hw, nodeF, Nd.nx_mk' hb]
theorem next_ok (hW : WOk W) (hw : W[node]? = some w) (hb : b < 16) (hl : W.length ≤ 512) : nextO (nodes bits W R) node b = decide ((addW W (child w b)).length ≤ 512) := by
  rw [nextO, next_in hw hb, nodes_length]
  by_cases h : child w b ∈ W
  · rw [decide_eq_true ((nextF_pos hW).2 h), Bool.true_or, addW, if_pos h, decide_eq_true hl]
  · rw [decide_eq_false (fun h' => h ((nextF_pos hW).1 h')), Bool.false_or, addW, if_neg h, List.length_append]; simp; omega
theorem next_num (hW : WOk W) (hw : W[node]? = some w) (hb : b < 16) (hl : (addW W (child w b)).length ≤ 512) : nextN (nodes bits W R) node b = ((addW W (child w b)).idxOf (child w b) : Nat) := by
  rw [nextN, next_in hw hb, nodes_length]
  by_cases h : child w b ∈ W
  · rw [if_pos ((nextF_pos hW).2 h), addW, if_pos h, nextF, if_pos h]
  · rw [addW, if_neg h, List.length_append] at hl
    simp only [List.length_cons, List.length_nil] at hl
    rw [if_neg (fun h' => h ((nextF_pos hW).1 h')), if_neg (by omega), addW, if_neg h, List.idxOf_append, if_neg h]; simp
theorem next_list (hW : WOk W) (hw : W[node]? = some w) (hb : b < 16) (hs : w.steps < 31) (hh : Holds' bits W R) (hl : (addW W (child w b)).length ≤ 512) : nextL (nodes bits W R) node b = nodes bits (addW W (child w b)) R := by
  have hwm := List.mem_of_getElem? hw
  have hwk := hW.ok w hwm
  rw [nextL, next_in hw hb, nodes_length, nodes_getD hw]
  by_cases h : child w b ∈ W
  · rw [if_pos (.inl ((nextF_pos hW).2 h)), addW, if_pos h]
  · rw [addW, if_neg h] at hl
    simp only [List.length_append, List.length_cons, List.length_nil] at hl
    rw [if_neg (by rw [nextF_pos hW]; intro h'; rcases h' with h' | h'; exact h h'; omega), addW, if_neg h]
    have hck : (child w b).ok := ⟨by simp only [child]; omega, rset_full (by omega) hb hwk.2⟩
    have hnd : (W ++ [child w b]).Nodup := by have := addW_nodup (w := child w b) hW.nodup; rwa [addW, if_neg h] at this
    have nlt : node < W.length := (List.getElem?_eq_some_iff.1 hw).1
    refine List.ext_getElem? fun i => ?_
    rcases Nat.lt_trichotomy i W.length with hi | hi | hi
    · obtain ⟨v, hv⟩ : ∃ v, W[i]? = some v := ⟨W[i], by simp [hi]⟩
      have hvm := List.mem_of_getElem? hv
      have e2 : (W ++ [child w b])[i]? = some v := by rw [List.getElem?_append_left hi]; exact hv
      rw [nodes_get e2, List.getElem?_set]
      have nx : ∀ c, c < 16 → nextF (W ++ [child w b]) v c = if child v c = child w b then (W.length : Int) else nextF W v c := fun c hc => by
        unfold nextF
        by_cases h1 : child v c = child w b
        · rw [if_pos (by rw [h1]; simp), if_pos h1, h1, List.idxOf_append, if_neg h]; simp
        · rw [if_neg h1]
          by_cases h2 : child v c ∈ W
          · rw [if_pos (by simp [h2]), if_pos h2, List.idxOf_append, if_pos h2]
          · rw [if_neg (by simp [h1, h2]), if_neg h2]
      split
      · rename_i e
        subst e
        rw [if_pos (by simp; omega)]
        obtain rfl : w = v := Option.some.inj (hw.symm.trans hv)
        refine congrArg some (Nd.ext' (fun c hc => ?_) fun c hc => ?_)
        · rw [Nd.sl_setNx, nodeF, nodeF, Nd.sl_mk' hc, Nd.sl_mk' hc]
        · rw [Nd.nx_set hb, nodeF, nodeF, Nd.nx_mk' hc, Nd.nx_mk' hc, nx c hc]
          by_cases hbc : b = c
          · subst hbc; rw [if_pos rfl, if_pos rfl]
          · rw [if_neg hbc, if_neg fun e => hbc (child_inj hwk hwk hc hb e).2.symm]
      · rename_i e
        rw [List.getElem?_append_left (by simpa using hi), nodes_get hv]
        refine congrArg some (Nd.ext' (fun c hc => ?_) fun c hc => ?_)
        · rw [nodeF, nodeF, Nd.sl_mk' hc, Nd.sl_mk' hc]
        · rw [nodeF, nodeF, Nd.nx_mk' hc, Nd.nx_mk' hc, nx c hc, if_neg fun e' => ?_]
          obtain ⟨rfl, _⟩ := child_inj (hW.ok v hvm) hwk hc hb e'
          exact e (get_inj hW.nodup hw hv)
    · have e2 : (W ++ [child w b])[i]? = some (child w b) := by rw [hi]; simp
      rw [nodes_get e2, List.getElem?_set, if_neg (by omega), List.getElem?_append_right (by simp [hi])]
      simp only [nodes_length, hi, Nat.sub_self, List.getElem?_cons_zero]
      refine congrArg some (Nd.ext' (fun c hc => ?_) fun c hc => ?_)
      · rw [Nd.sl_zero, nodeF, Nd.sl_mk' hc, slotF_new hh hck hc (by simp [child]) h]
      · rw [Nd.nx_zero, nodeF, Nd.nx_mk' hc, nextF, if_neg]
        intro hm
        rcases List.mem_append.1 hm with hm | hm
        · have := hW.up _ hm (w.steps + 1) (by simp only [child]; omega)
          refine h ?_
          have e3 : wayAt (child (child w b) c).key (w.steps + 1) = child w b := by
            have := rset_cut (k := (child w b).key) (n := w.steps + 1) (b := c) hck.1 hc hck.2
            simp only [child, wayAt] at this ⊢
            rw [this]
          rwa [e3] at this
        · have := congrArg Wy.steps (List.mem_singleton.1 hm)
          simp [child] at this
    · rw [List.getElem?_eq_none (by simp; omega), List.getElem?_eq_none (by simp; omega)]
end

/-! The slots that a route fits. -/
def openN (p : Pfx) : Nat := (4 - (p.len - 4 * (lastN p : Int))).toNat
theorem openN_eq {p : Pfx} (h : pmay p = true) : openN p ≤ 4 ∧ (p.len : Int) = 4 * (lastN p : Int) + 4 - (openN p : Int) := by
  obtain ⟨_, h2, h3, _⟩ := (pmay_iff p).1 h
  unfold openN lastN; omega
theorem nib_range {x y e : Nat} (hx : x < 16) (hy : y < 16) (he : e ≤ 4) (h0 : x % 2 ^ e = 0) : (x ≤ y ∧ y < x + 2 ^ e) ↔ ∀ j, e ≤ j → j < 4 → y.testBit j = x.testBit j := by
  have hp : 0 < 2 ^ e := Nat.two_pow_pos e
  have hq := Nat.div_add_mod x (2 ^ e)
  have hr := Nat.div_add_mod y (2 ^ e)
  have hm := Nat.mod_lt y hp
  have key : (x ≤ y ∧ y < x + 2 ^ e) ↔ y / 2 ^ e = x / 2 ^ e := by
    constructor
    · rintro ⟨h1, h2⟩
      apply Nat.le_antisymm
      · apply Nat.le_of_lt_succ
        apply Nat.div_lt_of_lt_mul
        rw [Nat.mul_succ]; omega
      · exact Nat.div_le_div_right h1
    · intro h
      rw [h] at hr; omega
  rw [key]
  constructor
  · intro h j h1 h2
    have := congrArg (fun z => z.testBit (j - e)) h
    simp only [Nat.testBit_div_two_pow] at this
    rwa [show j - e + e = j by omega] at this
  · intro h
    refine Nat.eq_of_testBit_eq fun j => ?_
    rw [Nat.testBit_div_two_pow, Nat.testBit_div_two_pow]
    rcases Nat.lt_or_ge (j + e) 4 with hj | hj
    · exact h _ (by omega) hj
    · have hp : 2 ^ 4 ≤ 2 ^ (j + e) := Nat.pow_le_pow_right (by decide) hj
      rw [Nat.testBit_lt_two_pow (Nat.lt_of_lt_of_le hx hp), Nat.testBit_lt_two_pow (Nat.lt_of_lt_of_le hy hp)]
theorem kst_open {p : Pfx} (h : pmay p = true) : kst p.key (lastN p) % 2 ^ openN p = 0 := by
  obtain ⟨h1, h2⟩ := openN_eq h
  have hb := (pmay_bits p).1 h
  have hl := lastN_lt h
  refine Nat.eq_of_testBit_eq fun j => ?_
  rw [Nat.testBit_mod_two_pow, Nat.zero_testBit]
  by_cases hj : j < openN p
  · rw [kst_bit _ _ _ hl (by omega), hb.2.2.2 _ (by omega) (by omega)]; simp
  · simp [hj]
theorem kst_room {p : Pfx} (h : pmay p = true) : kst p.key (lastN p) + 2 ^ openN p ≤ 16 := by
  have h0 := kst_open h
  have hlt := kst_lt p.key (lastN p)
  obtain ⟨h1, _⟩ := openN_eq h
  have := Nat.div_add_mod (kst p.key (lastN p)) (2 ^ openN p)
  generalize kst p.key (lastN p) = x at *
  generalize openN p = e at *
  match e, h1 with
  | 0, _ => simp; omega
  | 1, _ => simp at *; omega
  | 2, _ => simp at *; omega
  | 3, _ => simp at *; omega
  | 4, _ => simp at *; omega
theorem hit_iff {r : Rt} {bits : Int} {w : Wy} {b : Nat} (hr : pmay r.p = true) (hbits : r.p.bits = bits) (hw : w.ok) (hb : b < 16) :
    hit r bits w b = true ↔ w = wayAt r.p.key (lastN r.p) ∧ kst r.p.key (lastN r.p) ≤ b ∧ b < kst r.p.key (lastN r.p) + 2 ^ openN r.p := by
  obtain ⟨he1, he2⟩ := openN_eq hr
  have hpb := (pmay_bits r.p).1 hr
  have hl := lastN_lt hr
  rw [nib_range (kst_lt _ _) hb he1 (kst_open hr)]
  constructor
  · intro h
    have hw' : w = wayAt r.p.key (lastN r.p) := by
      have h' := h
      simp only [hit, Bool.and_eq_true, decide_eq_true_eq] at h'
      obtain ⟨⟨h1, h2⟩, h3⟩ := h'
      rcases Int.lt_or_le 0 r.p.len with hl | hl
      · rw [h2]; exact hit_way hw hb h hl
      · have h0 := lastN_zero hl
        rw [h0, wayAt_zero]
        obtain ⟨s, k⟩ := w
        have hs : s = 0 := by rw [h0] at h2; exact h2.symm
        subst hs
        have := hw.2
        simp only [Nat.mul_zero] at this
        rw [kcut_none _ _ (by decide)] at this
        rw [root, ← this]
    refine ⟨hw', fun j h1 h2 => ?_⟩
    subst hw'
    simp only [hit, Bool.and_eq_true, decide_eq_true_eq] at h
    obtain ⟨_, _, h4⟩ := (pfits_iff _ _).1 h.2
    have hm := congrArg (fun k : Key => k.getMsbD (4 * lastN r.p + 3 - j)) h4
    simp only [kcut_msb] at hm
    rw [decide_eq_true (by omega), Bool.true_and] at hm
    rw [kst_bit _ _ _ hl h2, ← hm]
    have e := rset_msb (k := (wayAt r.p.key (lastN r.p)).key) (n := lastN r.p) hl hb (wayAt_cut _ _) (4 * lastN r.p + 3 - j) (by omega)
    rw [if_neg (by omega), if_pos (by omega)] at e
    have e' : (rset (wayAt r.p.key (lastN r.p)).key (wayAt r.p.key (lastN r.p)).steps b).getMsbD (4 * lastN r.p + 3 - j) = b.testBit (4 * lastN r.p + 3 - (4 * lastN r.p + 3 - j)) := e
    rw [e']; congr 1; omega
  · rintro ⟨rfl, h⟩
    simp only [hit, Bool.and_eq_true, decide_eq_true_eq]
    refine ⟨⟨hbits, rfl⟩, (pfits_iff _ _).2 ⟨hr, ?_, ?_⟩⟩
    · have hf := rset_full (k := (wayAt r.p.key (lastN r.p)).key) (n := lastN r.p) hl hb (wayAt_cut _ _)
      refine (kcut_self_iff _ _).2 fun i hi h2 => ?_
      refine (kcut_self_iff _ _).1 hf i hi ?_
      have := hpb.1; have h3 := hpb.2.2.1; have h4 := hpb.2.1
      have : (lastN r.p : Int) ≤ (r.p.bits - 1) / 4 := by unfold lastN; omega
      omega
    · refine key_ext fun i hi => ?_
      have hm := rset_msb (k := (wayAt r.p.key (lastN r.p)).key) (n := lastN r.p) hl hb (wayAt_cut _ _) i hi
      have hm' : (rset (wayAt r.p.key (lastN r.p)).key (wayAt r.p.key (lastN r.p)).steps b).getMsbD i = _ := hm
      rw [kcut_msb, hm']
      by_cases h1 : (i : Int) < r.p.len
      · rw [decide_eq_true h1, Bool.true_and]
        by_cases h2 : i < 4 * lastN r.p
        · rw [if_pos h2]; simp only [wayAt]; rw [cut_nat_msb, decide_eq_true h2, Bool.true_and]
        · rw [if_neg h2, if_pos (by omega), h _ (by omega) (by omega), kst_bit _ _ _ hl (by omega)]; congr 1; omega
      · rw [decide_eq_false h1, Bool.false_and, hpb.2.2.2 i hi (by omega)]

def nodesP (bits : Int) (W : List Wy) (R : List Rt) (r : Rt) (f : Nat) : List Nd := W.map fun w =>
  if w = wayAt r.p.key (lastN r.p) then Nd.mk' (fun b => if b < f then slotF bits (R ++ [r]) w b else slotF bits R w b) (nextF W w) else nodeF bits W R w
@[simp] theorem nodesP_length (bits : Int) (W : List Wy) (R : List Rt) (r : Rt) (f : Nat) : (nodesP bits W R r f).length = W.length := by simp [nodesP]
section
variable {bits : Int} {W : List Wy} {R : List Rt} {r : Rt} {f : Nat}
theorem slot_miss {w : Wy} {b : Nat} (h : hit r bits w b = false) : slotF bits (R ++ [r]) w b = slotF bits R w b := by
  rw [slotF_snoc, slotUp, if_neg (by rw [h]; simp)]
theorem nodesP_start (hW : WOk W) (hr : pmay r.p = true) (hb : r.p.bits = bits) : nodesP bits W R r (kst r.p.key (lastN r.p)) = nodes bits W R := by
  refine List.map_congr_left fun w hw => ?_
  split
  · rename_i e
    refine Nd.ext' (fun b hb' => ?_) fun b hb' => by rw [nodeF, Nd.nx_mk' hb', Nd.nx_mk' hb']
    rw [nodeF, Nd.sl_mk' hb', Nd.sl_mk' hb']
    split
    · rename_i hlt
      refine slot_miss ?_
      cases hh : hit r bits w b with
      | false => rfl
      | true => have := (hit_iff hr hb (hW.ok w hw) hb').1 hh; omega
    · rfl
  · rfl
theorem nodesP_end (hW : WOk W) (hr : pmay r.p = true) (hb : r.p.bits = bits) : nodesP bits W R r (kst r.p.key (lastN r.p) + 2 ^ openN r.p) = nodes bits W (R ++ [r]) := by
  refine List.map_congr_left fun w hw => ?_
  split
  · rename_i e
    refine Nd.ext' (fun b hb' => ?_) fun b hb' => by rw [nodeF, Nd.nx_mk' hb', Nd.nx_mk' hb']
    rw [nodeF, Nd.sl_mk' hb', Nd.sl_mk' hb']
    split
    · rfl
    · rename_i hlt
      refine (slot_miss ?_).symm
      cases hh : hit r bits w b with
      | false => rfl
      | true => have := (hit_iff hr hb (hW.ok w hw) hb').1 hh; omega
  · rename_i e
    refine Nd.ext' (fun b hb' => ?_) fun b hb' => by rw [nodeF, nodeF, Nd.nx_mk' hb', Nd.nx_mk' hb']
    rw [nodeF, nodeF, Nd.sl_mk' hb', Nd.sl_mk' hb']
    refine (slot_miss ?_).symm
    cases hh : hit r bits w b with
    | false => rfl
    | true => exact absurd ((hit_iff hr hb (hW.ok w hw) hb').1 hh).1 e
theorem nodesP_get (f : Nat) {i : Nat} (hi : W[i]? = some (wayAt r.p.key (lastN r.p))) : (nodesP bits W R r f)[i]? = some (Nd.mk' (fun b => if b < f then slotF bits (R ++ [r]) (wayAt r.p.key (lastN r.p)) b else slotF bits R (wayAt r.p.key (lastN r.p)) b) (nextF W (wayAt r.p.key (lastN r.p)))) := by
  simp [nodesP, hi]
theorem nodesP_slot {i : Nat} (hi : W[i]? = some (wayAt r.p.key (lastN r.p))) (hf : f < 16) {n : Nd} (hn : (nodesP bits W R r f)[i]? = some n) : n.sl f = slotF bits R (wayAt r.p.key (lastN r.p)) f := by
  rw [nodesP_get f hi] at hn
  obtain rfl := (Option.some.inj hn).symm
  rw [Nd.sl_mk' hf, if_neg (by omega)]
theorem nodesP_keep (hW : WOk W) (hf : ¬ (slotF bits R (wayAt r.p.key (lastN r.p)) f).len ≤ r.p.len) : nodesP bits W R r (f + 1) = nodesP bits W R r f := by
  refine List.map_congr_left fun w hw => ?_
  split
  · rename_i e
    refine Nd.ext' (fun b hb' => ?_) fun b hb' => by rw [Nd.nx_mk' hb', Nd.nx_mk' hb']
    rw [Nd.sl_mk' hb', Nd.sl_mk' hb']
    by_cases h1 : b = f
    · subst h1
      rw [if_pos (by omega), if_neg (by omega), slotF_snoc, slotUp, if_neg]
      subst e; intro h; exact hf h.2
    · by_cases h2 : b < f
      · rw [if_pos (by omega), if_pos h2]
      · rw [if_neg (by omega), if_neg h2]
  · rfl
theorem nodesP_put (hW : WOk W) (hr : pmay r.p = true) (hb : r.p.bits = bits) {i : Nat} (hi : W[i]? = some (wayAt r.p.key (lastN r.p))) {n : Nd} (hn : (nodesP bits W R r f)[i]? = some n)
    (h1 : kst r.p.key (lastN r.p) ≤ f) (h2 : f < kst r.p.key (lastN r.p) + 2 ^ openN r.p) (hf : (slotF bits R (wayAt r.p.key (lastN r.p)) f).len ≤ r.p.len) :
    (nodesP bits W R r f).set i (n.setSl f ⟨r.p.len + 1, r.hop⟩) = nodesP bits W R r (f + 1) := by
  have h16 := kst_room hr
  have hwm := List.mem_of_getElem? hi
  rw [nodesP_get f hi] at hn
  obtain rfl := (Option.some.inj hn).symm
  refine List.ext_getElem? fun j => ?_
  rw [List.getElem?_set]
  split
  · rename_i e
    subst e
    have hil := (List.getElem?_eq_some_iff.1 hi).1
    rw [if_pos (by simpa using hil), nodesP_get (f + 1) hi]
    refine congrArg some (Nd.ext' (fun b hb' => ?_) fun b hb' => by rw [Nd.nx_setSl, Nd.nx_mk' hb', Nd.nx_mk' hb'])
    rw [Nd.sl_set (by omega), Nd.sl_mk' hb', Nd.sl_mk' hb']
    by_cases h3 : f = b
    · subst h3
      rw [if_pos rfl, if_pos (by omega), slotF_snoc, slotUp, if_pos ⟨(hit_iff hr hb (hW.ok _ hwm) hb').2 ⟨rfl, h1, h2⟩, hf⟩]
    · rw [if_neg h3]
      by_cases h4 : b < f
      · rw [if_pos h4, if_pos (by omega)]
      · rw [if_neg h4, if_neg (by omega)]
  · rename_i e
    rcases Nat.lt_or_ge j W.length with hj | hj
    · obtain ⟨v, hv⟩ : ∃ v, W[j]? = some v := ⟨W[j], by simp [hj]⟩
      have hne : v ≠ wayAt r.p.key (lastN r.p) := fun e' => by subst e'; exact e (get_inj hW.nodup hi hv)
      simp [nodesP, hv, hne]
    · rw [List.getElem?_eq_none (by simpa using hj), List.getElem?_eq_none (by simpa using hj)]
end

theorem max_last {p : Pfx} (h : 0 ≤ p.len) : max (0 : Int) ((p.len - 1).tdiv 4) = ((lastN p : Nat) : Int) := by
  unfold lastN
  rcases Int.lt_or_le 0 p.len with h1 | h1
  · rw [Int.tdiv_eq_ediv_of_nonneg (by omega)]; omega
  · obtain h2 : p.len = 0 := by omega
    rw [h2]; decide
theorem tdiv_rng {l : Int} (h0 : 0 ≤ l) (h1 : l ≤ 128) : 0 ≤ (l - 1).tdiv 4 ∧ (l - 1).tdiv 4 ≤ 31 := by
  rcases Int.lt_or_le 0 l with h | h
  · rw [Int.tdiv_eq_ediv_of_nonneg (by omega)]; omega
  · obtain h2 : l = 0 := by omega
    rw [h2]; decide
theorem addTo_last {W : List Wy} (hW : WOk W) (p : Pfx) (i : Nat) : wayAt p.key i ∈ addTo W p i := by
  rcases Nat.eq_zero_or_pos i with e | e
  · subst e; rw [wayAt_zero, addTo_zero]; exact List.mem_of_getElem? hW.root
  · exact addTo_mem.2 (.inr ⟨i, e, Nat.le_refl _, rfl⟩)

/-! A whole table. -/
theorem Holds'.mono {bits : Int} {W W' : List Wy} {R : List Rt} (h : Holds' bits W R) (hp : W <+: W') : Holds' bits W' R := fun r hr hb s h1 h2 => hp.subset (h r hr hb s h1 h2)
theorem holds_ways {bits : Int} : ∀ (n : Nat) (t : List Rt), Holds' bits (waysF bits (t.take n)) (t.take n)
  | 0, t => by simp [Holds']
  | n + 1, t => by
    rcases Nat.lt_or_ge n t.length with h | h
    · rw [List.take_succ_eq_append_getElem h, ways_snoc]
      intro r hr hb s h1 h2
      rcases List.mem_append.1 hr with hr | hr
      · exact (holds_ways n t).mono addWs_pre r hr hb s h1 h2
      · obtain rfl := List.mem_singleton.1 hr
        rw [addWs, if_pos hb]; exact addTo_mem.2 (.inr ⟨s, h1, h2, rfl⟩)
    · rw [List.take_of_length_le (by omega)]
      have := holds_ways (bits := bits) n t
      rwa [List.take_of_length_le h] at this
theorem ways_take {bits : Int} {t : List Rt} {i : Nat} {r : Rt} (h : t[i]? = some r) : waysF bits (t.take (i + 1)) = addWs (waysF bits (t.take i)) r bits := by
  obtain ⟨hi, rfl⟩ := List.getElem?_eq_some_iff.1 h
  rw [List.take_succ_eq_append_getElem hi, ways_snoc]
theorem ways_mono {bits : Int} {t : List Rt} : ∀ {i j : Nat}, i ≤ j → waysF bits (t.take i) <+: waysF bits (t.take j) := by
  intro i j hij
  induction j with
  | zero => obtain rfl : i = 0 := by omega
            exact List.prefix_rfl
  | succ j ih =>
    rcases Nat.lt_or_ge j i with h | h
    · obtain rfl : i = j + 1 := by omega
      exact List.prefix_rfl
    · refine (ih h).trans ?_
      rcases Nat.lt_or_ge j t.length with h' | h'
      · rw [List.take_succ_eq_append_getElem h', ways_snoc]; exact addWs_pre
      · rw [List.take_of_length_le (by omega), List.take_of_length_le (by omega)]
        exact List.prefix_rfl
theorem nodes_skip {bits : Int} {W : List Wy} {R : List Rt} {r : Rt} (h : r.p.bits ≠ bits) : nodes bits W (R ++ [r]) = nodes bits W R := by
  refine List.map_congr_left fun w hw => ?_
  refine Nd.ext' (fun b hb' => ?_) fun b hb' => by rw [nodeF, nodeF, Nd.nx_mk' hb', Nd.nx_mk' hb']
  rw [nodeF, nodeF, Nd.sl_mk' hb', Nd.sl_mk' hb', slot_miss]
  simp [hit, h]
theorem nodes_root (bits : Int) : nodes bits [root] [] = [Nd.zero] := by
  have e : nodeF bits [root] [] root = Nd.zero := Nd.ext' (fun b hb => by rw [nodeF, Nd.sl_mk' hb, Nd.sl_zero]; rfl) fun b hb => by
    rw [nodeF, Nd.nx_mk' hb, Nd.nx_zero, nextF, if_neg]
    intro h
    have := congrArg Wy.steps (List.mem_singleton.1 h)
    simp [child, root] at this
  simp [nodes, e]
theorem tr_may {t : List Rt} (h : tright t = true) {r : Rt} (hr : r ∈ t) : pmay r.p = true := by
  obtain ⟨i, hi⟩ := List.mem_iff_getElem?.1 hr
  have hlt := (List.getElem?_eq_some_iff.1 hi).1
  cases hm : pmay r.p with
  | true => rfl
  | false => rw [tright_no hlt (okAt_may hi hm)] at h; cases h
theorem tr_len {t : List Rt} (h : tright t = true) : t.length ≤ 256 := by
  rcases Nat.lt_or_ge 256 t.length with h1 | h1
  · rw [tright_long h1] at h; cases h
  · exact h1
def nextG (W : List Wy) (w : Wy) (b m : Nat) : Int := if child w b ∈ W.take m then (W.idxOf (child w b) : Nat) else 0
theorem nextG_all {W : List Wy} {w : Wy} {b m : Nat} (h : W.length ≤ m) : nextG W w b m = nextF W w b := by
  rw [nextG, List.take_of_length_le h]; rfl
theorem nextG_one {W : List Wy} (hW : WOk W) {w : Wy} {b : Nat} : nextG W w b 1 = 0 := by
  rw [nextG, if_neg]
  intro h
  obtain ⟨x, l, e⟩ : ∃ x l, W = x :: l := by
    cases hx : W with
    | nil => have := hW.ne; rw [hx] at this; simp at this
    | cons x l => exact ⟨x, l, rfl⟩
  have hr := hW.root
  subst e
  simp only [List.take_succ_cons, List.take_zero, List.mem_singleton] at h
  simp only [List.getElem?_cons_zero, Option.some.injEq] at hr
  have := congrArg Wy.steps (h.trans hr)
  simp [child, root] at this
theorem nextG_succ {W : List Wy} (hW : WOk W) {w v : Wy} {b m : Nat} (hm : W[m]? = some v) : nextG W w b (m + 1) = if v.steps = w.steps + 1 ∧ v.key = rset w.key w.steps b then (m : Int) else nextG W w b m := by
  have e : W.take (m + 1) = W.take m ++ [v] := by
    obtain ⟨hi, rfl⟩ := List.getElem?_eq_some_iff.1 hm
    exact List.take_succ_eq_append_getElem hi
  have hc : (v.steps = w.steps + 1 ∧ v.key = rset w.key w.steps b) ↔ v = child w b := by
    obtain ⟨s, k⟩ := v
    simp [child]
  unfold nextG
  rw [e]
  by_cases h : v = child w b
  · rw [if_pos (hc.2 h), if_pos (by simp [h]), ← h, get_idx hW.nodup hm]
  · rw [if_neg (fun h' => h (hc.1 h'))]
    have : child w b ∈ W.take m ++ [v] ↔ child w b ∈ W.take m := by
      simp [List.mem_append, show ¬ child w b = v from fun h' => h h'.symm]
    by_cases h2 : child w b ∈ W.take m
    · rw [if_pos (this.2 h2), if_pos h2]
    · rw [if_neg (fun h' => h2 (this.1 h')), if_neg h2]
def nodeB (bits : Int) (W : List Wy) (R : List Rt) (w : Wy) (b : Nat) : Nd := Nd.mk' (fun c => if c < b then slotF bits R w c else Slt.no) (fun c => if c < b then nextF W w c else 0)
theorem nodeB_zero (bits : Int) (W : List Wy) (R : List Rt) (w : Wy) : nodeB bits W R w 0 = Nd.zero := Nd.ext' (fun c hc => by rw [nodeB, Nd.sl_mk' hc, if_neg (by omega), Nd.sl_zero]) fun c hc => by rw [nodeB, Nd.nx_mk' hc, if_neg (by omega), Nd.nx_zero]
theorem nodeB_all (bits : Int) (W : List Wy) (R : List Rt) (w : Wy) : nodeB bits W R w 16 = nodeF bits W R w := Nd.ext' (fun c hc => by rw [nodeB, nodeF, Nd.sl_mk' hc, Nd.sl_mk' hc, if_pos hc]) fun c hc => by rw [nodeB, nodeF, Nd.nx_mk' hc, Nd.nx_mk' hc, if_pos hc]
theorem nodeB_start {bits : Int} {W : List Wy} {R : List Rt} {w : Wy} {b : Nat} (hb : b < 16) : (nodeB bits W R w b).setSl b (slotF bits [] w b) = nodeB bits W R w b := Nd.ext' (fun c hc => by
    rw [Nd.sl_set hb]; split
    · rename_i e; subst e; rw [nodeB, Nd.sl_mk' hc, if_neg (by omega)]; rfl
    · rfl) fun c _ => by rw [Nd.nx_setSl]
theorem nodeB_next {bits : Int} {W : List Wy} (hW : WOk W) {R : List Rt} {w : Wy} {b : Nat} (hb : b < 16) : ((nodeB bits W R w b).setSl b (slotF bits R w b)).setNx b (nextG W w b 1) = (nodeB bits W R w b).setSl b (slotF bits R w b) := Nd.ext' (fun c _ => by rw [Nd.sl_setNx]) fun c hc => by
    rw [Nd.nx_set hb]; split
    · rename_i e; subst e; rw [nextG_one hW, Nd.nx_setSl, nodeB, Nd.nx_mk' hc, if_neg (by omega)]
    · rfl
theorem nodeB_succ {bits : Int} {W : List Wy} {R : List Rt} {w : Wy} {b : Nat} (hb : b < 16) : ((nodeB bits W R w b).setSl b (slotF bits R w b)).setNx b (nextF W w b) = nodeB bits W R w (b + 1) := Nd.ext' (fun c hc => by
    rw [Nd.sl_setNx, Nd.sl_set hb, nodeB, nodeB, Nd.sl_mk' hc, Nd.sl_mk' hc]
    by_cases h : b = c
    · subst h; rw [if_pos rfl, if_pos (by omega)]
    · rw [if_neg h]
      by_cases h2 : c < b
      · rw [if_pos h2, if_pos (by omega)]
      · rw [if_neg h2, if_neg (by omega)]) fun c hc => by
    rw [Nd.nx_set hb, Nd.nx_setSl, nodeB, nodeB, Nd.nx_mk' hc, Nd.nx_mk' hc]
    by_cases h : b = c
    · subst h; rw [if_pos rfl, if_pos (by omega)]
    · rw [if_neg h]
      by_cases h2 : c < b
      · rw [if_pos h2, if_pos (by omega)]
      · rw [if_neg h2, if_neg (by omega)]
theorem setSl_setSl {n : Nd} {b : Nat} {x y : Slt} (hb : b < 16) : (n.setSl b x).setSl b y = n.setSl b y := Nd.ext' (fun c _ => by
    rw [Nd.sl_set hb, Nd.sl_set hb, Nd.sl_set hb]; split <;> rfl) fun c _ => rfl
theorem setNx_setNx {n : Nd} {b : Nat} {x y : Int} (hb : b < 16) : (n.setNx b x).setNx b y = n.setNx b y := Nd.ext' (fun c _ => rfl) fun c _ => by
    rw [Nd.nx_set hb, Nd.nx_set hb, Nd.nx_set hb]; split <;> rfl
def buildE (t : List Rt) (bits : Int) : Int := if tright t = true ∧ (bits = 32 ∨ bits = 128) then (if (waysF bits t).length ≤ 512 then 0 else 5) else 1
def buildB (t : List Rt) (bits : Int) : Int := if buildE t bits = 0 then bits else 0
def buildN (t : List Rt) (bits : Int) : List Nd := if buildE t bits = 0 then nodes bits (waysF bits t) t else []
theorem buildE_arg {t : List Rt} {bits : Int} (h : ¬ (tright t = true ∧ (bits = 32 ∨ bits = 128))) : buildE t bits = 1 ∧ buildB t bits = 0 ∧ buildN t bits = [] := by
  have e : buildE t bits = 1 := by rw [buildE, if_neg h]
  exact ⟨e, by rw [buildB, e]; rfl, by rw [buildN, e]; rfl⟩
theorem buildE_full {t : List Rt} {bits : Int} (h : tright t = true ∧ (bits = 32 ∨ bits = 128)) (h2 : ¬ (waysF bits t).length ≤ 512) : buildE t bits = 5 ∧ buildB t bits = 0 ∧ buildN t bits = [] := by
  have e : buildE t bits = 5 := by rw [buildE, if_pos h, if_neg h2]
  exact ⟨e, by rw [buildB, e]; rfl, by rw [buildN, e]; rfl⟩
theorem buildE_ok {t : List Rt} {bits : Int} (h : tright t = true ∧ (bits = 32 ∨ bits = 128)) (h2 : (waysF bits t).length ≤ 512) : buildE t bits = 0 ∧ buildB t bits = bits ∧ buildN t bits = nodes bits (waysF bits t) t := by
  have e : buildE t bits = 0 := by rw [buildE, if_pos h, if_pos h2]
  exact ⟨e, by rw [buildB, e]; rfl, by rw [buildN, e]; rfl⟩
end Go.Kb

/- A trie's nodes, its ways and whole numbers as cells: what is read and written of them. -/
namespace Go.Kb
open Go.Eng

/-! Whole numbers. -/
def iec (x : Int) : Array Value := #[.int .i64 x]
instance : Enc iec 1 := ⟨fun _ => rfl, fun _ => by simp [iec, Value.oneCell']⟩
instance (x : Int) : CellAt (iec x) 0 (.int .i64 x) := ⟨rfl⟩
instance : Deep Int := Deep.flat iec 1
instance : FlatT Int iec 1 := ⟨rfl, fun _ => rfl⟩
instance : Plain Int := ⟨fun _ => rfl⟩

/-! Truths. -/
def bec (x : Bool) : Array Value := #[.bool x]
instance : Enc bec 1 := ⟨fun _ => rfl, fun _ => by simp [bec, Value.oneCell']⟩
instance (x : Bool) : CellAt (bec x) 0 (.bool x) := ⟨rfl⟩
instance : Deep Bool := Deep.flat bec 1
instance : FlatT Bool bec 1 := ⟨rfl, fun _ => rfl⟩
instance : Plain Bool := ⟨fun _ => rfl⟩

/-! Slots. -/
def slcells (s : Slt) : Array Value := #[.int .i64 s.len, .int .u16 s.hop.toNat]
instance : Enc slcells 2 := ⟨fun _ => rfl, fun _ => by simp [slcells, Value.oneCell']⟩
instance (s : Slt) : SizeIs (slcells s) 2 := ⟨rfl, Enc.one s⟩
instance (s : Slt) : CellAt (slcells s) 0 (.int .i64 s.len) := ⟨rfl⟩
instance (s : Slt) : CellAt (slcells s) 1 (.int .u16 s.hop.toNat) := ⟨rfl⟩

/-! Nodes. -/
def ncell (n : Nd) (j : Nat) : Value := if j < 32 then (if j % 2 = 0 then .int .i64 (n.sl (j / 2)).len else .int .u16 (n.sl (j / 2)).hop.toNat) else .int .i64 (n.nx (j - 32))
def ncells (n : Nd) : Array Value := ((List.range 48).map (ncell n)).toArray
theorem ncells_size (n : Nd) : (ncells n).size = 48 := by simp [ncells]
theorem ncells_get (n : Nd) (j : Nat) (h : j < 48) : (ncells n)[j]? = some (ncell n j) := by simp [ncells, h]
theorem ncells_none (n : Nd) (j : Nat) (h : 48 ≤ j) : (ncells n)[j]? = none := by simp [ncells]; omega
instance : Enc ncells 48 := ⟨ncells_size, fun n => by
  rw [Array.all_eq_true_iff_forall_mem]
  intro v hv
  simp only [ncells, List.mem_toArray, List.mem_map] at hv
  obtain ⟨j, _, rfl⟩ := hv
  unfold ncell; split
  · split <;> rfl
  · rfl⟩
instance (n : Nd) : SizeIs (ncells n) 48 := ⟨ncells_size n, Enc.one n⟩
instance : Deep Nd := Deep.flat ncells 48
instance : FlatT Nd ncells 48 := ⟨rfl, fun _ => rfl⟩
instance : Plain Nd := ⟨fun _ => rfl⟩
theorem ncells_len (n : Nd) {b : Nat} (h : b < 16) : (ncells n)[b * 2]? = some (.int .i64 (n.sl b).len) := by
  rw [ncells_get _ _ (by omega), ncell, if_pos (by omega), if_pos (by omega), show b * 2 / 2 = b by omega]
theorem ncells_hop (n : Nd) {b : Nat} (h : b < 16) : (ncells n)[b * 2 + 1]? = some (.int .u16 (n.sl b).hop.toNat) := by
  rw [ncells_get _ _ (by omega), ncell, if_pos (by omega), if_neg (by omega), show (b * 2 + 1) / 2 = b by omega]
theorem ncells_nx (n : Nd) {b : Nat} (h : b < 16) : (ncells n)[32 + b]? = some (.int .i64 (n.nx b)) := by
  rw [ncells_get _ _ (by omega), ncell, if_neg (by omega), show 32 + b - 32 = b by omega]
theorem ncells_sl (n : Nd) {b : Nat} (h : b < 16) : PartAt (ncells n) (b * 2) 2 (slcells (n.sl b)) := ⟨rfl, fun j hj => by
  match j, hj with
  | 0, _ => exact ncells_len n h
  | 1, _ => exact ncells_hop n h⟩
theorem over_nx (n : Nd) {b : Nat} (h : b < 16) (x : Int) : over (ncells n) (32 + b) #[.int .i64 x] = ncells (n.setNx b x) := Array.ext_getElem? fun j => by
  rw [cells_over (by rw [ncells_size]; simp; omega)]
  rcases Nat.lt_or_ge j 48 with hj | hj
  · rw [ncells_get n j hj, ncells_get (n.setNx b x) j hj]
    split
    · rename_i h2
      have e : j = 32 + b := by simp at h2; omega
      subst e
      rw [Nat.sub_self, ncell, if_neg (by omega), show 32 + b - 32 = b by omega, Nd.nx_set h, if_pos rfl]; rfl
    · rename_i h2
      rw [ncell, ncell]
      by_cases h3 : j < 32
      · rw [if_pos h3, if_pos h3, Nd.sl_setNx]
      · rw [if_neg h3, if_neg h3, Nd.nx_set h, if_neg]
        simp at h2; omega
  · rw [if_neg (by simp; omega), ncells_none _ _ hj, ncells_none _ _ hj]
theorem over_sl (n : Nd) {b : Nat} (h : b < 16) (s : Slt) : over (ncells n) (b * 2) (slcells s) = ncells (n.setSl b s) := Array.ext_getElem? fun j => by
  have hs : (slcells s).size = 2 := rfl
  rw [cells_over (by rw [ncells_size, hs]; omega), hs]
  rcases Nat.lt_or_ge j 48 with hj | hj
  · rw [ncells_get n j hj, ncells_get (n.setSl b s) j hj]
    split
    · rename_i h2
      rw [ncell, if_pos (by omega)]
      rcases Nat.lt_or_ge j (b * 2 + 1) with h3 | h3
      · obtain rfl : j = b * 2 := by omega
        rw [if_pos (by omega), show b * 2 / 2 = b by omega, Nd.sl_set h, if_pos rfl, Nat.sub_self]; rfl
      · obtain rfl : j = b * 2 + 1 := by omega
        rw [if_neg (by omega), show (b * 2 + 1) / 2 = b by omega, Nd.sl_set h, if_pos rfl, show b * 2 + 1 - b * 2 = 1 by omega]; rfl
    · rename_i h2
      rw [ncell, ncell]
      by_cases h3 : j < 32
      · have hne : ¬ b = j / 2 := by omega
        rw [if_pos h3, if_pos h3, Nd.sl_set h]; simp only [if_neg hne]
      · rw [if_neg h3, if_neg h3, Nd.nx_setSl]
  · rw [if_neg (by omega), ncells_none _ _ hj, ncells_none _ _ hj]
theorem u16_inj {a b : UInt16} (h : (a.toNat : Int) = b.toNat) : a = b := UInt16.toNat_inj.1 (by omega)
theorem ncells_inj {a b : Nd} (h : ncells a = ncells b) : a = b := Nd.ext' (fun i hi => by
    have h1 := ncells_len a hi
    have h2 := ncells_hop a hi
    rw [h, ncells_len b hi] at h1
    rw [h, ncells_hop b hi] at h2
    simp only [Option.some.injEq, Value.int.injEq, true_and] at h1 h2
    cases ha : a.sl i; cases hb : b.sl i
    rw [ha, hb] at h1 h2
    simp only at h1 h2
    rw [h1, u16_inj h2])
  fun i hi => by
    have h1 := ncells_nx a hi
    rw [h, ncells_nx b hi] at h1
    simp only [Option.some.injEq, Value.int.injEq, true_and] at h1
    exact h1.symm

/-! Ways. -/
def wcells (w : Wy) : Array Value := #[.int .i64 (w.steps : Nat)] ++ kcells w.key
theorem wcells_size (w : Wy) : (wcells w).size = 17 := by unfold wcells; rw [Array.size_append, kcells_size]; rfl
theorem wcells_0 (w : Wy) : (wcells w)[0]? = some (.int .i64 (w.steps : Nat)) := by unfold wcells; rw [Array.getElem?_append]; rfl
theorem wcells_k (w : Wy) (j : Nat) : (wcells w)[1 + j]? = (kcells w.key)[j]? := by
  unfold wcells; rw [Array.getElem?_append_right (by simp)]; congr 1; simp
theorem kc_one (k : Key) : (kcells k).all (·.oneCell') = true := by
  rw [Array.all_eq_true_iff_forall_mem]
  intro v hv
  simp only [kcells, List.mem_toArray, List.mem_map] at hv
  obtain ⟨j, _, rfl⟩ := hv
  rfl
instance : Enc wcells 17 := ⟨wcells_size, fun w => by rw [wcells, Array.all_append, kc_one]; simp [Value.oneCell']⟩
instance (w : Wy) : SizeIs (wcells w) 17 := ⟨wcells_size w, Enc.one w⟩
instance (w : Wy) : CellAt (wcells w) 0 (.int .i64 (w.steps : Nat)) := ⟨wcells_0 w⟩
instance (w : Wy) : PartAt (wcells w) 1 16 (kcells w.key) := ⟨kcells_size _, fun j _ => wcells_k w j⟩
instance : Deep Wy := Deep.flat wcells 17
instance : FlatT Wy wcells 17 := ⟨rfl, fun _ => rfl⟩
instance : Plain Wy := ⟨fun _ => rfl⟩
theorem wcells_inj {a b : Wy} (h : wcells a = wcells b) : a = b := by
  have h1 := wcells_0 a
  rw [h, wcells_0] at h1
  simp only [Option.some.injEq, Value.int.injEq, true_and] at h1
  have h2 : kcells a.key = kcells b.key := Array.ext_getElem? fun j => by rw [← wcells_k, ← wcells_k, h]
  obtain ⟨s, k⟩ := a
  obtain ⟨s', k'⟩ := b
  simp only at h1 h2
  rw [kcells_inj h2, show s = s' by omega]

/-! Tries. -/
structure Tri where
  bits : Int
  ns : Sl Nd
def tcells (t : Tri) : Array Value := #[.int .i64 t.bits, t.ns.sv.val]
instance : Enc tcells 2 := ⟨fun _ => rfl, fun t => by
  have h1 : (Value.int .i64 t.bits).oneCell' = true := rfl
  simp only [tcells, List.all_toArray, List.all_cons, List.all_nil, Sv.one, h1, Bool.and_self]⟩
instance (t : Tri) : SizeIs (tcells t) 2 := ⟨rfl, Enc.one t⟩
instance (t : Tri) : PartAt (tcells t) 0 2 (tcells t) := ⟨rfl, fun j _ => by rw [Nat.zero_add]⟩
instance (t : Tri) : CellAt (tcells t) 0 (.int .i64 t.bits) := ⟨rfl⟩
instance (t : Tri) : CellAt (tcells t) 1 t.ns.sv.val := ⟨rfl⟩
instance : Deep Tri where
  c := 2
  cells := tcells
  size := Enc.size
  one := Enc.one
  good h x := Deep.good h x.ns
  ent x := Deep.ent x.ns
  good_of h x hs := Deep.good_of h x.ns hs
  mono w w' x := Deep.mono w w' x.ns
instance : FlatT Tri tcells 2 := ⟨rfl, fun _ => rfl⟩
instance {w0 : World} {L : List Ent} {x : Tri} [q : HdD w0 L x] : HdD w0 L x.ns := ⟨q.h⟩
instance {w0 : World} {L : List Ent} {b : Int} {s : Sl Nd} [q : HdD w0 L s] : HdD w0 L (Tri.mk b s) := ⟨q.h⟩
instance {w0 : World} {L : List Ent} {x : Tri} [q : HdD w0 L x] : Hd w0 L x.ns.sv ncells 48 x.ns.xs := (inferInstance : Hd w0 L x.ns.sv ncells 48 x.ns.xs)
instance {L R : List Ent} {x : Tri} [k : Take L x.ns R] : Take L x R := ⟨k.h⟩
instance {L R : List Ent} {i : Int} {b : Sl Nd} [k : Take L b R] : Take L (Tri.mk i b) R := ⟨k.h⟩
end Go.Kb
namespace Go.Eng
open Go.Kb
section
variable {P : Program} {N : Fra} {w0 : World} {env : Env} {L : List Ent} {d : Option Tmp} {ty : TypeId} {ps : String} {af : Array Edge} {gd : Option (Nat × Bool)}
theorem ry_nilp {x : Operand} {a : Addr} (hx : ev env x = some (.pointer (some a))) : Ry P N w0 env L ⟨d, .nilCheck x, ty, ps, af, gd⟩ (.pointer (some a)) := fun _ w ha _ => by
  simp only [execOp, ha.ev hx, Sem.run_pure]
variable {s : Sv} {xs : List Nd} {a : Nd}
/-! What is read of a node in a slice. -/
theorem ry_nx {t : TypeId} {x : Operand} {p : Nat} [ht : OneT P t] [q : Hd w0 L s ncells 48 xs] (hx : ev env x = some (.pointer (some ⟨s.b, p, none⟩))) (i : Nat) (hi : xs[i]? = some a) (b : Nat) (hb : b < 16) (hp' : p = s.o + i * 48 + 32 + b) :
    Ry P N w0 env L ⟨d, .load t x, ty, ps, af, gd⟩ (.int .i64 (a.nx b)) := ry_elemc (j := 32 + b) hx q.h hi (by omega) (by omega) (ncells_nx a hb)
theorem ry_slen {t : TypeId} {x : Operand} {p : Nat} [ht : OneT P t] [q : Hd w0 L s ncells 48 xs] (hx : ev env x = some (.pointer (some ⟨s.b, p, none⟩))) (i : Nat) (hi : xs[i]? = some a) (b : Nat) (hb : b < 16) (hp' : p = s.o + i * 48 + b * 2) :
    Ry P N w0 env L ⟨d, .load t x, ty, ps, af, gd⟩ (.int .i64 (a.sl b).len) := ry_elemc (j := b * 2) hx q.h hi (by omega) (by omega) (ncells_len a hb)
theorem ry_shop {t : TypeId} {x : Operand} {p : Nat} [ht : OneT P t] [q : Hd w0 L s ncells 48 xs] (hx : ev env x = some (.pointer (some ⟨s.b, p, none⟩))) (i : Nat) (hi : xs[i]? = some a) (b : Nat) (hb : b < 16) (hp' : p = s.o + i * 48 + b * 2 + 1) :
    Ry P N w0 env L ⟨d, .load t x, ty, ps, af, gd⟩ (.int .u16 (a.sl b).hop.toNat) := ry_elemc (j := b * 2 + 1) hx q.h hi (by omega) (by omega) (ncells_hop a hb)
theorem ry_slot {t : TypeId} {x : Operand} {p : Nat} [ht : RowT P t 2] [q : Hd w0 L s ncells 48 xs] (hx : ev env x = some (.pointer (some ⟨s.b, p, none⟩))) (i : Nat) (hi : xs[i]? = some a) (b : Nat) (hb : b < 16) (hp' : p = s.o + i * 48 + b * 2) :
    Ry P N w0 env L ⟨d, .load t x, ty, ps, af, gd⟩ (.agg (slcells (a.sl b))) :=
  have := ncells_sl a hb
  ry_elemp (j := b * 2) hx q.h hi (by omega) (by omega)
/-! .. of one in a block. -/
theorem ry_bnx {t T : TypeId} {x : Operand} {p k i : Nat} [ht : OneT P t] [q : Has L k (ncells a) T i] (hx : ev env x = some (.pointer (some ⟨k, p, none⟩))) (b : Nat) (hb : b < 16) (hp' : p = 32 + b) :
    Ry P N w0 env L ⟨d, .load t x, ty, ps, af, gd⟩ (.int .i64 (a.nx b)) := ry_cell hx (by rw [hp']; exact ncells_nx a hb)
theorem ry_bslen {t T : TypeId} {x : Operand} {p k i : Nat} [ht : OneT P t] [q : Has L k (ncells a) T i] (hx : ev env x = some (.pointer (some ⟨k, p, none⟩))) (b : Nat) (hb : b < 16) (hp' : p = b * 2) :
    Ry P N w0 env L ⟨d, .load t x, ty, ps, af, gd⟩ (.int .i64 (a.sl b).len) := ry_cell hx (by rw [hp']; exact ncells_len a hb)
theorem ry_bshop {t T : TypeId} {x : Operand} {p k i : Nat} [ht : OneT P t] [q : Has L k (ncells a) T i] (hx : ev env x = some (.pointer (some ⟨k, p, none⟩))) (b : Nat) (hb : b < 16) (hp' : p = b * 2 + 1) :
    Ry P N w0 env L ⟨d, .load t x, ty, ps, af, gd⟩ (.int .u16 (a.sl b).hop.toNat) := ry_cell hx (by rw [hp']; exact ncells_hop a hb)
theorem ry_bslot {t T : TypeId} {x : Operand} {p k i : Nat} [ht : RowT P t 2] [q : Has L k (ncells a) T i] (hx : ev env x = some (.pointer (some ⟨k, p, none⟩))) (b : Nat) (hb : b < 16) (hp' : p = b * 2) :
    Ry P N w0 env L ⟨d, .load t x, ty, ps, af, gd⟩ (.agg (slcells (a.sl b))) := by
  subst hp'
  have := ncells_sl a hb
  exact ry_part hx
end
section
variable {P : Program} {N : Fra} {w0 : World} {env : Env} {L : List Ent} {l : List Oper} {Q : Exit → Act → World → Prop} {rest : List Oper} {ty : TypeId} {ps : String} {af : Array Edge}
variable {s : Sv} {xs : List Nd} {a : Nd}
/-! What is written. -/
theorem sq_stNx {t : TypeId} {x y : Operand} {i k p : Nat} {v : Int} [ht : OneT P t] (hx : ev env x = some (.pointer (some ⟨s.b, p, none⟩))) (hy : ev env y = some (.int .i64 v)) [q : Owns L s ncells 48 xs i] (ha : xs[k]? = some a) (b : Nat) (hb : b < 16) (hp' : p = s.o + k * 48 + 32 + b) {L' : List Ent} [hu : Upd L i (own ncells 48 s (xs.set k (a.setNx b v))) L'] (hk : Sq P N w0 l Q rest env L') :
    Sq P N w0 l Q (⟨none, .store t x y, ty, ps, af, none⟩ :: rest) env L :=
  sq_storeS (j := 32 + b) (n := 1) (a' := a.setNx b v) ht.size hx hy (q := q) (by omega) ha (by simp [Value.cells, Value.oneCell']) rfl (by omega) (over_nx a hb v) hk
theorem sq_stSl {t : TypeId} {x y : Operand} {i k p : Nat} {v : Slt} [ht : RowT P t 2] (hx : ev env x = some (.pointer (some ⟨s.b, p, none⟩))) (hy : ev env y = some (.agg (slcells v))) [q : Owns L s ncells 48 xs i] (ha : xs[k]? = some a) (b : Nat) (hb : b < 16) (hp' : p = s.o + k * 48 + b * 2) {L' : List Ent} [hu : Upd L i (own ncells 48 s (xs.set k (a.setSl b v))) L'] (hk : Sq P N w0 l Q rest env L') :
    Sq P N w0 l Q (⟨none, .store t x y, ty, ps, af, none⟩ :: rest) env L :=
  sq_storeS (j := b * 2) (n := 2) (a' := a.setSl b v) ht.size hx hy (q := q) (by omega) ha (Enc.one v) rfl (by omega) (over_sl a hb v) hk
theorem sq_stI {t : TypeId} {x y : Operand} {i k p : Nat} {s : Sv} {xs : List Int} {a v : Int} [ht : OneT P t] (hx : ev env x = some (.pointer (some ⟨s.b, p, none⟩))) (hy : ev env y = some (.int .i64 v)) [q : Owns L s iec 1 xs i] (ha : xs[k]? = some a) (hp' : p = s.o + k * 1) {L' : List Ent} [hu : Upd L i (own iec 1 s (xs.set k v)) L'] (hk : Sq P N w0 l Q rest env L') :
    Sq P N w0 l Q (⟨none, .store t x y, ty, ps, af, none⟩ :: rest) env L :=
  sq_storeS (j := 0) (n := 1) (a' := v) ht.size hx hy (q := q) (by omega) ha (by simp [Value.cells, Value.oneCell']) rfl (by omega) (by rfl) hk
theorem sq_stB {t : TypeId} {x y : Operand} {i k p : Nat} {s : Sv} {xs : List Bool} {a v : Bool} [ht : OneT P t] (hx : ev env x = some (.pointer (some ⟨s.b, p, none⟩))) (hy : ev env y = some (.bool v)) [q : Owns L s bec 1 xs i] (ha : xs[k]? = some a) (hp' : p = s.o + k * 1) {L' : List Ent} [hu : Upd L i (own bec 1 s (xs.set k v)) L'] (hk : Sq P N w0 l Q rest env L') :
    Sq P N w0 l Q (⟨none, .store t x y, ty, ps, af, none⟩ :: rest) env L :=
  sq_storeS (j := 0) (n := 1) (a' := v) ht.size hx hy (q := q) (by omega) ha (by simp [Value.cells, Value.oneCell']) rfl (by omega) (by rfl) hk
theorem sq_bstNx {t T : TypeId} {x y : Operand} {i k p : Nat} {v : Int} [ht : OneT P t] (hx : ev env x = some (.pointer (some ⟨k, p, none⟩))) (hy : ev env y = some (.int .i64 v)) [q : Has L k (ncells a) T i] (b : Nat) (hb : b < 16) (hp' : p = 32 + b) {L' : List Ent} [hu : Upd L i (blk k (ncells (a.setNx b v)) T) L'] (hk : Sq P N w0 l Q rest env L') :
    Sq P N w0 l Q (⟨none, .store t x y, ty, ps, af, none⟩ :: rest) env L := by
  subst hp'
  refine sq_store (cs' := ncells (a.setNx b v)) hx hy (by rw [ncells_size]; omega) rfl ?_ hk
  rw [← over_nx a hb v]
  refine Array.ext_getElem? fun j => ?_
  rw [cells_over (by rw [ncells_size]; simp; omega), Array.getElem?_setIfInBounds]
  have e1 : (#[Value.int .i64 v] : Array Value).size = 1 := rfl
  by_cases h : 32 + b = j
  · subst h
    rw [if_pos rfl, if_pos (by rw [ncells_size]; omega), if_pos (by rw [e1]; omega), Nat.sub_self]; rfl
  · rw [if_neg h, if_neg (by rw [e1]; omega)]
theorem sq_bstSl {t T : TypeId} {x y : Operand} {i k p : Nat} {v : Slt} [ht : RowT P t 2] (hx : ev env x = some (.pointer (some ⟨k, p, none⟩))) (hy : ev env y = some (.agg (slcells v))) [q : Has L k (ncells a) T i] (b : Nat) (hb : b < 16) (hp' : p = b * 2) {L' : List Ent} [hu : Upd L i (blk k (ncells (a.setSl b v)) T) L'] (hk : Sq P N w0 l Q rest env L') :
    Sq P N w0 l Q (⟨none, .store t x y, ty, ps, af, none⟩ :: rest) env L := by
  subst hp'
  exact sq_storeN hx hy (by rw [ncells_size]; omega) (over_sl a hb v) hk
end
end Go.Eng

/- Stores into a trie's nodes, as steps of a line; a call's memory, two entries of it in front. -/
namespace Go.Eng
open Go.Kb Go.RowKit
theorem mem_one {w0 w : World} {L R : List Ent} {e : Ent} {i : Nat} (q : L[i]? = some e) (d : L.eraseIdx i = R) (h : Mem w0 L w) : Mem w0 (e :: R) w := by
  have := h.perm (perm_erase q); rwa [d] at this
theorem mem_two {w0 w : World} {L R1 R2 : List Ent} {e1 e2 : Ent} {i j : Nat} (h1 : L[i]? = some e1) (d1 : L.eraseIdx i = R1) (h2 : R1[j]? = some e2) (d2 : R1.eraseIdx j = R2) (h : Mem w0 L w) : Mem w0 (e1 :: e2 :: R2) w := by
  subst d1; subst d2
  exact h.perm ((perm_erase h1).trans ((perm_erase h2).cons _))
theorem shl_open {p : Pfx} (h : pmay p = true) : IntKind.i64.wrap (1 * 2 ^ min (4 - (p.len - 4 * ((lastN p : Nat) : Int))).toNat IntKind.i64.bits) = ((2 ^ openN p : Nat) : Int) := by
  obtain ⟨h1, h2⟩ := openN_eq h
  have e : (4 - (p.len - 4 * ((lastN p : Nat) : Int))).toNat = openN p := rfl
  rw [e]
  generalize openN p = x at h1
  match x, h1 with
  | 0, _ => rfl
  | 1, _ => rfl
  | 2, _ => rfl
  | 3, _ => rfl
  | 4, _ => rfl
instance (priority := low) Keep.drop {L L' : List Ent} {e : Ent} [k : Keep L L'] : Keep (e :: L) L' := ⟨by
  obtain ⟨R, hR⟩ := k.h
  exact ⟨e :: R, (hR.cons e).trans List.perm_middle.symm⟩⟩
section
variable {P : Program} {N : Fra} {w0 : World} {env : Env} {L : List Ent} {Q : Exit → Act → World → Prop} {d : Option Tmp} {ty : TypeId} {ps : String} {af : Array Edge} {gd : Option (Nat × Bool)} {K : Value → List Ent → Prop}
theorem Ry.to {o : Oper} {v v' : Value} (h : Ry P N w0 env L o v) (e : v = v') : Ry P N w0 env L o v' := e ▸ h
theorem yl_fcall {f : FuncId} {x : Operand} {caps : Array Value} {xs : List Operand} {ts : Array TypeId} {vs : List Value} {v : Value} [hf : IsFn P f] (hx : ev env x = some (.func (.func f) #[] caps)) (hxs : evl env xs = some vs)
    (hc : ∀ w, Mem w0 L w → Calls P f (vs ++ caps.toList).toArray w fun e w' => e = .returned v ∧ Mem w [] w') :
    Yl P N w0 env L ⟨d, .call { callee := .value x, args := xs.toArray, argTypes := ts }, ty, ps, af, gd⟩ v := fun a ha w hw => by
  unfold Oper.quietAt
  obtain ⟨fn, h1, h2, h3⟩ := hf.fn
  have h2' : ¬ fn.body = none := fun e => by simp [e] at h2
  have h3' : ¬ fn.name = "runtime.NumGoroutine" := by simpa using h3
  have e : (execOp a.eval ⟨d, .call { callee := .value x, args := xs.toArray, argTypes := ts }, ty, ps, af, gd⟩).run P w = .ok (.enter f (vs ++ caps.toList).toArray) w := by
    have hm := ha.evl hxs
    simp [execOp, resolve, ha.ev hx, Deferred.ofValue, invoke, callFunc, h1, h2', h3', Result.andThen, ← hm]
  rw [e]
  exact ⟨rfl, hc w hw⟩
theorem ry_mkfunc {f : Fn} {xs : List Operand} {vs : List Value} (hx : evl env xs = some vs) : Ry P N w0 env L ⟨d, .makeFunc f #[] xs.toArray, ty, ps, af, gd⟩ (.func f #[] vs.toArray) := fun a w ha _ => by
  have hm := ha.evl hx
  simp [execOp, Instr.makeFunc, Result.andThen, ← hm]
instance (s : Sv) : CellAt (senc s) 0 s.val := ⟨rfl⟩
instance (s : Sv) : CellAt s.val.cells 0 s.val := ⟨by rw [Sv.cells_val]; rfl⟩
variable {s : Sv} {xs : List Nd} {a : Nd}
theorem st_stNx {t : TypeId} {x y : Operand} {i k p : Nat} {v : Int} [ht : OneT P t] (hx : ev env x = some (.pointer (some ⟨s.b, p, none⟩))) (hy : ev env y = some (.int .i64 v)) [q : Owns L s ncells 48 xs i] (ha : xs[k]? = some a) (b : Nat) (hb : b < 16) (hp' : p = s.o + k * 48 + 32 + b) {L' : List Ent} [hu : Upd L i (own ncells 48 s (xs.set k (a.setNx b v))) L'] (hk : K undef (L')) :
    Stp P N w0 env L ⟨none, .store t x y, ty, ps, af, none⟩ K :=
  st_storeS (j := 32 + b) (n := 1) (a' := a.setNx b v) ht.size hx hy (q := q) (by omega) ha (by simp [Value.cells, Value.oneCell']) rfl (by omega) (over_nx a hb v) hk
theorem st_stSl {t : TypeId} {x y : Operand} {i k p : Nat} {v : Slt} [ht : RowT P t 2] (hx : ev env x = some (.pointer (some ⟨s.b, p, none⟩))) (hy : ev env y = some (.agg (slcells v))) [q : Owns L s ncells 48 xs i] (ha : xs[k]? = some a) (b : Nat) (hb : b < 16) (hp' : p = s.o + k * 48 + b * 2) {L' : List Ent} [hu : Upd L i (own ncells 48 s (xs.set k (a.setSl b v))) L'] (hk : K undef (L')) :
    Stp P N w0 env L ⟨none, .store t x y, ty, ps, af, none⟩ K :=
  st_storeS (j := b * 2) (n := 2) (a' := a.setSl b v) ht.size hx hy (q := q) (by omega) ha (Enc.one v) rfl (by omega) (over_sl a hb v) hk
theorem st_stI {t : TypeId} {x y : Operand} {i k p : Nat} {s : Sv} {xs : List Int} {a v : Int} [ht : OneT P t] (hx : ev env x = some (.pointer (some ⟨s.b, p, none⟩))) (hy : ev env y = some (.int .i64 v)) [q : Owns L s iec 1 xs i] (ha : xs[k]? = some a) (hp' : p = s.o + k * 1) {L' : List Ent} [hu : Upd L i (own iec 1 s (xs.set k v)) L'] (hk : K undef (L')) :
    Stp P N w0 env L ⟨none, .store t x y, ty, ps, af, none⟩ K :=
  st_storeS (j := 0) (n := 1) (a' := v) ht.size hx hy (q := q) (by omega) ha (by simp [Value.cells, Value.oneCell']) rfl (by omega) (by rfl) hk
theorem st_stB {t : TypeId} {x y : Operand} {i k p : Nat} {s : Sv} {xs : List Bool} {a v : Bool} [ht : OneT P t] (hx : ev env x = some (.pointer (some ⟨s.b, p, none⟩))) (hy : ev env y = some (.bool v)) [q : Owns L s bec 1 xs i] (ha : xs[k]? = some a) (hp' : p = s.o + k * 1) {L' : List Ent} [hu : Upd L i (own bec 1 s (xs.set k v)) L'] (hk : K undef (L')) :
    Stp P N w0 env L ⟨none, .store t x y, ty, ps, af, none⟩ K :=
  st_storeS (j := 0) (n := 1) (a' := v) ht.size hx hy (q := q) (by omega) ha (by simp [Value.cells, Value.oneCell']) rfl (by omega) (by rfl) hk
theorem st_bstNx {t T : TypeId} {x y : Operand} {i k p : Nat} {v : Int} [ht : OneT P t] (hx : ev env x = some (.pointer (some ⟨k, p, none⟩))) (hy : ev env y = some (.int .i64 v)) [q : Has L k (ncells a) T i] (b : Nat) (hb : b < 16) (hp' : p = 32 + b) {L' : List Ent} [hu : Upd L i (blk k (ncells (a.setNx b v)) T) L'] (hk : K undef (L')) :
    Stp P N w0 env L ⟨none, .store t x y, ty, ps, af, none⟩ K := by
  subst hp'
  refine st_store (cs' := ncells (a.setNx b v)) hx hy (by rw [ncells_size]; omega) rfl ?_ hk
  rw [← over_nx a hb v]
  refine Array.ext_getElem? fun j => ?_
  rw [cells_over (by rw [ncells_size]; simp; omega), Array.getElem?_setIfInBounds]
  have e1 : (#[Value.int .i64 v] : Array Value).size = 1 := rfl
  by_cases h : 32 + b = j
  · subst h
    rw [if_pos rfl, if_pos (by rw [ncells_size]; omega), if_pos (by rw [e1]; omega), Nat.sub_self]; rfl
  · rw [if_neg h, if_neg (by rw [e1]; omega)]
theorem st_bstSl {t T : TypeId} {x y : Operand} {i k p : Nat} {v : Slt} [ht : RowT P t 2] (hx : ev env x = some (.pointer (some ⟨k, p, none⟩))) (hy : ev env y = some (.agg (slcells v))) [q : Has L k (ncells a) T i] (b : Nat) (hb : b < 16) (hp' : p = b * 2) {L' : List Ent} [hu : Upd L i (blk k (ncells (a.setSl b v)) T) L'] (hk : K undef (L')) :
    Stp P N w0 env L ⟨none, .store t x y, ty, ps, af, none⟩ K := by
  subst hp'
  exact st_storeN hx hy (by rw [ncells_size]; omega) (over_sl a hb v) hk
end
end Go.Eng

/- Is a table right: walked. -/
namespace Go.Proofs.YtldkgicmfbofiaaGreatDoor
open Go.Eng Go.Kb
set_option maxRecDepth 20000 in
theorem right_c (w : World) (s : Sv) (xs : List Rt) (hs : Lies rcells 19 (hp w) s xs) : Calls Tryz.prog 5 #[s.val] w fun e w' => e = .returned (.bool (tright xs)) ∧ Mem w [] w' := by
 refine calls_of (args := [_]) Tryz.func5 rfl Tryz.ntmps5 rfl ?_
 change Cw _ _ _ _ _ [(0, s.val)] []
 refine cw_seq ?_
 refine cw_region ?_
 refine sq_r (ry_assign rfl) ?_
 refine sq_nil ?_
 refine ex_then ?_
 refine cw_seq ?_
 refine cw_seq ?_
 refine cw_region ?_
 refine sq_r (ry_move rfl) ?_
 refine sq_r (ry_lenS rfl hs.ok hs.len) ?_
 refine sq_r (ry_int rfl rfl rfl) ?_
 refine sq_nil ?_
 refine ex_then ?_
 refine cw_cond rfl (fun h0 => ?_) (fun h0 => ?_)
 ·
  simp only [decide_eq_true_eq] at h0
  refine cw_seq ?_
  refine cw_region ?_
  refine sq_r (ry_assign rfl) ?_
  refine sq_nil ?_
  refine ex_then ?_
  refine cw_ret ?_
  refine ex_pass_ret ?_
  refine ex_ret (.inl rfl) (res_tmp rfl rfl) (fun w hw => ?_)
  exact ⟨congrArg (fun b => Ending.returned (Value.bool b)) ((tright_long (by omega)).symm), hw.sub (List.nil_sublist _)⟩
 ·
  simp only [decide_eq_false_iff_not] at h0
  refine cw_skip ?_
  refine ex_then ?_
  refine cw_seq ?_
  refine cw_seq ?_
  refine cw_region ?_
  refine sq_r (ry_move rfl) ?_
  refine sq_r (ry_lenS rfl hs.ok hs.len) ?_
  refine sq_r (ry_move rfl) ?_
  refine sq_nil ?_
  refine ex_then ?_
  refine cw_block ?_
  refine cw_loop (X := Nat) (fun i => [(10, .int .i64 (i : Nat)), (9, .int .i64 (xs.length : Nat)), (8, s.val), (0, s.val)]) (fun i => []) (fun i => i ≤ xs.length ∧ okTo xs i = true) (fun i => xs.length - i) 0 ⟨by omega, okTo_zero xs⟩ (Sub.cons rfl (Sub.cons rfl (Sub.cons rfl (Sub.cons rfl (Sub.nil _))))) (fun w hw => hw) ?_
  rintro i ⟨hi1, hi2⟩
  refine cw_seq ?_
  refine cw_region ?_
  refine sq_r (ry_int rfl rfl rfl) ?_
  refine sq_nil ?_
  refine ex_then ?_
  refine cw_seq ?_
  refine cw_cond rfl (fun h1 => ?_) (fun h1 => ?_)
  ·
   simp only [decide_eq_true_eq] at h1
   have hlt : i < xs.length := by omega
   obtain ⟨r, hr⟩ := get_some hlt
   obtain ⟨q, hq⟩ := get_some (xs := xs) (i := i - 1) (by omega)
   refine cw_skip ?_
   refine ex_then ?_
   refine cw_seq ?_
   refine cw_block ?_
   refine cw_seq ?_
   refine cw_region ?_
   refine sq_r (ry_move rfl) ?_
   refine sq_r (ry_idxSv rfl rfl rfl hs.ok (by rw [hs.len]; omega)) ?_
   refine sq_r (ry_elem rfl (holds_given hs) hr rfl) ?_
   refine sq_allocA fun b4 => ?_
   refine sq_r (ry_assign rfl) ?_
   refine sq_storeW rfl rfl ?_
   refine sq_nil ?_
   refine ex_then ?_
   refine cw_seq ?_
   refine cw_seq ?_
   refine cw_region ?_
   refine sq_r (ry_field (o' := 0) rfl rfl) ?_
   refine sq_r (ry_part rfl) ?_
   refine sq_y (yl_pure rfl) ?_
   refine sq_r (ry_not rfl) ?_
   refine sq_nil ?_
   refine ex_then ?_
   refine cw_cond rfl (fun h2 => ?_) (fun h2 => ?_)
   ·
    refine cw_seq ?_
    refine cw_region ?_
    refine sq_r (ry_assign rfl) ?_
    refine sq_nil ?_
    refine ex_then ?_
    refine cw_ret ?_
    refine ex_pass_ret ?_
    refine ex_block_ret ?_
    refine ex_pass_ret ?_
    refine ex_pass_ret ?_
    refine ex_block_ret ?_
    refine ex_pass_ret ?_
    refine ex_ret (.inl rfl) (res_tmp rfl rfl) (fun w hw => ?_)
    exact ⟨congrArg (fun b => Ending.returned (Value.bool b)) ((tright_no hlt (okAt_may hr (by simpa using h2))).symm), hw.sub (List.nil_sublist _)⟩
   ·
    refine cw_skip ?_
    refine ex_then ?_
    refine cw_seq ?_
    refine cw_quiet (by kernel_rfl) (by kernel_rfl) ?_
    refine qt_r (ry_move rfl) ?_
    refine qt_r (ry_int rfl rfl rfl) ?_
    refine qt_r (ry_move rfl) ?_
    refine qt_gt rfl rfl rfl (fun hg => (ry_move rfl).yl) ?_
    refine qt_gt rfl rfl rfl (fun hg => (ry_move rfl).yl) ?_
    refine qt_gt rfl rfl rfl (fun hg => (ry_sub (ev_c hg rfl) rfl (by omega)).yl) ?_
    refine qt_gt rfl rfl rfl (fun hg => (ry_idxSv (i := i - 1) (ev_c hg rfl) (ev_c hg rfl) (by have := of_decide_eq_true hg; omega) hs.ok (by rw [hs.len]; omega)).yl) ?_
    refine qt_gt rfl rfl rfl (fun hg => (ry_field (ev_c hg rfl) rfl).yl) ?_
    refine qt_gt rfl rfl rfl (fun hg => (ry_elemp (j := 0) (ev_c hg rfl) (holds_given hs) hq rfl (by decide)).yl) ?_
    refine qt_gt rfl rfl rfl (fun hg => (ry_field (o' := 0) rfl rfl).yl) ?_
    refine qt_gt rfl rfl rfl (fun hg => (ry_part (ev_c hg rfl)).yl) ?_
    refine qt_gt rfl rfl rfl (fun hg => yl_pure (evl_cons (ev_c hg rfl) (evl_cons (ev_c hg rfl) evl_nil))) ?_
    refine qt_gt rfl rfl rfl (fun hg => (ry_not (ev_c hg rfl)).yl) ?_
    refine qt_r (ry_and rfl rfl rfl) ?_
    refine qt_nil ?_
    refine ex_then ?_
    refine cw_cond rfl (fun h3 => ?_) (fun h3 => ?_)
    ·
     refine cw_seq ?_
     refine cw_region ?_
     refine sq_r (ry_assign rfl) ?_
     refine sq_nil ?_
     refine ex_then ?_
     refine cw_ret ?_
     refine ex_block_ret ?_
     refine ex_pass_ret ?_
     refine ex_pass_ret ?_
     refine ex_block_ret ?_
     refine ex_pass_ret ?_
     refine ex_ret (.inl rfl) (res_tmp rfl rfl) (fun w hw => ?_)
     exact ⟨congrArg (fun b => Ending.returned (Value.bool b)) ((tright_no hlt (by rw [okAt_eq hr hq, h3]; simp)).symm), hw.sub (List.nil_sublist _)⟩
    ·
     refine cw_skip ?_
     refine ex_block ?_
     refine ex_then ?_
     refine cw_region ?_
     refine sq_r (ry_add rfl rfl (by omega)) ?_
     refine sq_r (ry_move rfl) ?_
     refine sq_nil ?_
     exact ex_again (i + 1) ⟨by omega, by rw [okTo_succ, hi2, okAt_eq hr hq, h3]; simpa using h2⟩ (by omega) (Sub.cons rfl (Sub.cons rfl (Sub.cons rfl (Sub.cons rfl (Sub.nil _))))) (fun w hw => hw.sub (List.nil_sublist _))
  ·
   simp only [decide_eq_false_iff_not] at h1
   refine cw_exit ?_
   refine ex_pass_exit ?_
   refine ex_pass_exit ?_
   refine ex_block_hit ?_
   refine ex_then ?_
   refine cw_seq ?_
   refine cw_region ?_
   refine sq_r (ry_assign rfl) ?_
   refine sq_nil ?_
   refine ex_then ?_
   refine cw_ret ?_
   refine ex_ret (.inl rfl) (res_tmp rfl rfl) (fun w hw => ?_)
   exact ⟨congrArg (fun b => Ending.returned (Value.bool b)) ((tright_all (by omega) (by rwa [show i = xs.length by omega] at hi2)).symm), hw.sub (List.nil_sublist _)⟩



end Go.Proofs.YtldkgicmfbofiaaGreatDoor

/- Routes as bytes. No program in sight. -/
namespace Go.Kb
open Go.Eng

def b8i (n : Int) : UInt8 := b8 (n % 256).toNat
theorem b8i_nat (n : Nat) : b8i (n : Int) = b8 n := by
  unfold b8i
  rw [show ((n : Int) % 256).toNat = n % 256 by omega, b8_mod]
theorem wrap_b8i (n : Int) : IntKind.u8.wrap n = ((b8i n).toNat : Int) := by
  unfold b8i
  rw [b8_toNat]; simp [IntKind.wrap, IntKind.bits, IntKind.signed]; omega
def rbytes (r : Rt) : List UInt8 :=
  [if r.p.bits = 128 then 1 else 0, b8i r.p.len] ++ (List.range 16).map (fun i => b8 (kbyte r.p.key i)) ++ [b8 (r.hop.toNat / 256), b8 r.hop.toNat]
theorem rbytes_length (r : Rt) : (rbytes r).length = 20 := by simp [rbytes]
theorem rbytes_0 (r : Rt) : (rbytes r)[0]? = some (if r.p.bits = 128 then 1 else 0) := by simp [rbytes]
theorem rbytes_1 (r : Rt) : (rbytes r)[1]? = some (b8i r.p.len) := by simp [rbytes]
theorem rbytes_k (r : Rt) (i : Nat) (h : i < 16) : (rbytes r)[2 + i]? = some (b8 (kbyte r.p.key i)) := by
  unfold rbytes
  rw [List.append_assoc, List.getElem?_append_right (by simp), List.getElem?_append_left (by simp; omega)]
  simp [h]
theorem rbytes_18 (r : Rt) : (rbytes r)[18]? = some (b8 (r.hop.toNat / 256)) := by simp [rbytes]
theorem rbytes_19 (r : Rt) : (rbytes r)[19]? = some (b8 r.hop.toNat) := by simp [rbytes]

theorem laid_cells (r : Rt) {cs0 : Array Value} (h0 : cs0.size = 20) (hz : cs0[0]? = some (.int .u8 (if r.p.bits = 128 then 1 else 0 : Nat))) :
    (((over (cs0.setIfInBounds 1 (.int .u8 (b8i r.p.len).toNat)) 2 (kcells r.p.key)).setIfInBounds 18 (.int .u8 (b8 (r.hop.toNat / 256)).toNat)).setIfInBounds 19 (.int .u8 (b8 r.hop.toNat).toNat)) = (flatR benc (rbytes r)).toArray := by
  have hs : (over (cs0.setIfInBounds 1 (.int .u8 (b8i r.p.len).toNat)) 2 (kcells r.p.key)).size = 20 := by rw [over_size (by simp [kcells_size, h0])]; simpa using h0
  refine Array.ext_getElem? fun j => ?_
  have hf : ∀ b, (rbytes r)[j]? = some b → (flatR benc (rbytes r)).toArray[j]? = some (.int .u8 b.toNat) := fun b hb => by
    have := flatR_get (enc := benc) (rbytes r) j b hb 0 (by decide)
    simp only [Nat.mul_one, Nat.add_zero] at this
    simpa [benc] using this
  have hk : 2 + (kcells r.p.key).size ≤ (cs0.setIfInBounds 1 (.int .u8 (b8i r.p.len).toNat)).size := by simp [kcells_size, h0]
  rw [Array.getElem?_setIfInBounds, Array.getElem?_setIfInBounds]
  by_cases h19 : 19 = j
  · subst h19; rw [hf _ (rbytes_19 r)]; simp [hs]
  by_cases h18 : 18 = j
  · subst h18; rw [hf _ (rbytes_18 r)]; simp [hs]
  rw [if_neg h19, if_neg h18, cells_over hk, kcells_size]
  by_cases h2 : 2 ≤ j ∧ j < 2 + 16
  · rw [if_pos h2, kcells_get _ _ (by omega)]
    have := rbytes_k r (j - 2) (by omega)
    rw [show 2 + (j - 2) = j by omega] at this
    rw [hf _ this, b8_toNat]
    have := kbyte_lt r.p.key (j - 2)
    rw [Nat.mod_eq_of_lt this]
  rw [if_neg h2, Array.getElem?_setIfInBounds]
  by_cases h1 : 1 = j
  · subst h1; rw [hf _ (rbytes_1 r)]; simp [h0]
  rw [if_neg h1]
  by_cases hj : j = 0
  · subst hj
    rw [hz, hf _ (rbytes_0 r)]
    split <;> rfl
  · have e1 : cs0[j]? = none := by simp; omega
    rw [e1]
    have : (flatR benc (rbytes r)).length = 20 := by rw [flatR_length, rbytes_length]
    simp; omega

def rpre (r : Rt) (i : Nat) : List UInt8 := [if r.p.bits = 128 then 1 else 0, b8i r.p.len] ++ (List.range i).map (fun i => b8 (kbyte r.p.key i))
theorem rpre_length (r : Rt) (i : Nat) : (rpre r i).length = i + 2 := by simp [rpre]
theorem rpre_succ (r : Rt) (i : Nat) : rpre r (i + 1) = rpre r i ++ [b8 (kbyte r.p.key i)] := by simp [rpre, List.range_succ]
theorem rpre_all (r : Rt) : rpre r 16 ++ be r.hop.toNat 2 = rbytes r := by simp [rpre, rbytes, be]
theorem rpre_zero (r : Rt) : [if r.p.bits = 128 then 1 else 0] ++ [b8i r.p.len] = rpre r 0 := by simp [rpre]
theorem b8_kbyte (k : Key) (i : Nat) : (kbyte k i : Int) = ((b8 (kbyte k i)).toNat : Int) := by
  rw [b8_toNat, Nat.mod_eq_of_lt (kbyte_lt k i)]
end Go.Kb

/- Tables as bodies of bytes, and back: what is computed. No program in sight. -/
namespace Go.Kb
open Go.Eng

/-! Bodies of a table. -/
def bodyAt (t : List Rt) (n id : Nat) : List UInt8 := ((t.drop (id * n)).take n).flatMap rbytes
def bodiesOf (t : List Rt) (ids n : Nat) : List (List UInt8) := (List.range ids).map (bodyAt t n)
def most (a b : Int) : Int := if a < 1 ∨ 64 < a ∨ b < 20 ∨ 240 < b then 0 else min (a * (b / 20)) 256
def bodiesE (t : List Rt) (ids room : Int) : Int := if tright t = false ∨ most ids room = 0 then 1 else if most ids room < t.length then 5 else 0
def bodiesV (t : List Rt) (ids room : Int) : List (List UInt8) := if bodiesE t ids room = 0 then bodiesOf t ids.toNat (room / 20).toNat else []
theorem bodiesOf_length (t : List Rt) (ids n : Nat) : (bodiesOf t ids n).length = ids := by simp [bodiesOf]
theorem flat_length (l : List Rt) : (l.flatMap rbytes).length = 20 * l.length := by
  induction l with
  | nil => rfl
  | cons a l ih => rw [List.flatMap_cons, List.length_append, ih, rbytes_length, List.length_cons]; omega
theorem bodyAt_length (t : List Rt) (n id : Nat) : (bodyAt t n id).length = 20 * min n (t.length - id * n) := by
  rw [bodyAt, flat_length, List.length_take, List.length_drop]
theorem bodyAt_le (t : List Rt) (n id : Nat) : (bodyAt t n id).length ≤ 20 * n := by rw [bodyAt_length]; omega
theorem most_pos {a b : Int} (h : ¬ most a b = 0) : 1 ≤ a ∧ a ≤ 64 ∧ 20 ≤ b ∧ b ≤ 240 ∧ most a b = min (a * (b / 20)) 256 ∧ 1 ≤ b / 20 ∧ b / 20 ≤ 12 := by
  unfold most at h ⊢
  split at h
  · exact absurd rfl h
  · rename_i hn
    rw [if_neg hn]
    have : 1 ≤ b / 20 ∧ b / 20 ≤ 12 := by omega
    exact ⟨by omega, by omega, by omega, by omega, rfl, this.1, this.2⟩
theorem bodyAt_take {t : List Rt} {r : Rt} {i n id : Nat} (hn : 0 < n) (hr : t[i]? = some r) : bodyAt (t.take (i + 1)) n id = bodyAt (t.take i) n id ++ (if id = i / n then rbytes r else []) := by
  have hlt : i < t.length := (List.getElem?_eq_some_iff.1 hr).1
  have e1 : t.take (i + 1) = t.take i ++ [r] := by rw [List.take_add_one, hr]; rfl
  have hd := Nat.div_add_mod i n
  have hm := Nat.mod_lt i hn
  have hc : n * (i / n) = i / n * n := Nat.mul_comm _ _
  unfold bodyAt
  have l1 : (t.take i).length = i := by rw [List.length_take]; omega
  rw [e1]
  by_cases h1 : id = i / n
  · subst h1
    have e2 : (t.take i ++ [r]).drop (i / n * n) = (t.take i).drop (i / n * n) ++ [r] := List.drop_append_of_le_length (by rw [l1]; omega)
    have e3 : ((t.take i).drop (i / n * n) ++ [r]).take n = (t.take i).drop (i / n * n) ++ [r] := List.take_of_length_le (by rw [List.length_append, List.length_drop, l1]; simp only [List.length_cons, List.length_nil]; omega)
    have e4 : ((t.take i).drop (i / n * n)).take n = (t.take i).drop (i / n * n) := List.take_of_length_le (by rw [List.length_drop, l1]; omega)
    rw [if_pos rfl, e2, e3, e4]
    simp
  · rw [if_neg h1, List.append_nil]
    rcases Nat.lt_or_gt_of_ne h1 with h2 | h2
    · have : (id + 1) * n ≤ i / n * n := Nat.mul_le_mul_right _ h2
      rw [Nat.add_mul] at this
      rw [List.drop_append_of_le_length (by rw [l1]; omega), List.take_append_of_le_length (by rw [List.length_drop, l1]; omega)]
    · have : (i / n + 1) * n ≤ id * n := Nat.mul_le_mul_right _ h2
      rw [Nat.add_mul] at this
      rw [List.drop_eq_nil_of_le (by rw [List.length_append, l1]; simp; omega), List.drop_eq_nil_of_le (by rw [l1]; omega)]
theorem bodiesOf_take {t : List Rt} {r : Rt} {i n ids : Nat} {x : List UInt8} (hn : 0 < n) (hr : t[i]? = some r) (hx : (bodiesOf (t.take i) ids n)[i / n]? = some x) :
    bodiesOf (t.take (i + 1)) ids n = (bodiesOf (t.take i) ids n).set (i / n) (x ++ rbytes r) := by
  refine List.ext_getElem? fun j => ?_
  rw [List.getElem?_set]
  have hk : i / n < ids := by have := (List.getElem?_eq_some_iff.1 hx).1; rwa [bodiesOf_length] at this
  by_cases hj : j < ids
  · have e : ∀ t', (bodiesOf t' ids n)[j]? = some (bodyAt t' n j) := fun t' => by simp [bodiesOf, hj]
    rw [e, bodyAt_take hn hr]
    by_cases h : i / n = j
    · subst h
      rw [e] at hx
      rw [if_pos rfl, if_pos rfl, if_pos (by rw [bodiesOf_length]; exact hk)]
      rw [Option.some.inj hx]
    · rw [if_neg (fun e => h e.symm), if_neg h, List.append_nil, e]
  · rw [List.getElem?_eq_none (by rw [bodiesOf_length]; omega), if_neg (by omega), List.getElem?_eq_none (by rw [bodiesOf_length]; omega)]
theorem bodiesOf_zero (t : List Rt) (ids n : Nat) : bodiesOf (t.take 0) ids n = List.replicate ids [] := by
  refine List.eq_replicate_iff.2 ⟨bodiesOf_length _ _ _, fun x hx => ?_⟩
  obtain ⟨j, _, rfl⟩ := List.mem_map.1 hx
  simp [bodyAt]
theorem bodiesOf_all (t : List Rt) (ids n : Nat) : bodiesOf (t.take t.length) ids n = bodiesOf t ids n := by rw [List.take_length]
def bodyPre (t : List Rt) (a i : Nat) : List UInt8 := ((t.drop a).take (i - a)).flatMap rbytes
theorem bodyPre_self (t : List Rt) (a : Nat) : bodyPre t a a = [] := by simp [bodyPre]
theorem bodyPre_succ {t : List Rt} {a i : Nat} {r : Rt} (h : a ≤ i) (hr : t[i]? = some r) : bodyPre t a (i + 1) = bodyPre t a i ++ rbytes r := by
  unfold bodyPre
  rw [show i + 1 - a = (i - a) + 1 by omega, List.take_add_one, List.getElem?_drop, show a + (i - a) = i by omega, hr]
  simp
theorem bodyPre_length (t : List Rt) (a i : Nat) : (bodyPre t a i).length ≤ 20 * (i - a) := by
  rw [bodyPre, flat_length, List.length_take]; omega
theorem bodyPre_end {t : List Rt} {n id i : Nat} (h : id * n ≤ i) (hi : i ≤ (id + 1) * n) (hd : (id + 1) * n ≤ i ∨ t.length ≤ i) : bodyPre t (id * n) i = bodyAt t n id := by
  unfold bodyPre bodyAt
  congr 1
  rw [Nat.add_mul] at hi hd
  by_cases h1 : i = id * n + n
  · congr 1; omega
  · rw [List.take_of_length_le (by rw [List.length_drop]; omega), List.take_of_length_le (by rw [List.length_drop]; omega)]
theorem bodiesOf_succ (t : List Rt) (id n : Nat) : bodiesOf t (id + 1) n = bodiesOf t id n ++ [bodyAt t n id] := by simp [bodiesOf, List.range_succ]

/-! Bodies that are read. -/
def rdroute (b : List UInt8) : Rt := ⟨⟨if b.getD 0 0 = 1 then 128 else 32, (b.getD 1 0).toNat, kof fun i => (b.getD (2 + i) 0).toNat⟩, UInt16.ofNat ((b.getD 18 0).toNat * 256 + (b.getD 19 0).toNat)⟩
def rd (b : List UInt8) : Option Rt := if b.getD 0 0 ≤ 1 then some (rdroute b) else none
def unbody (b : List UInt8) : Option (List Rt) :=
  if h : b.length < 20 then (if b.length = 0 then some [] else none)
  else match rd (b.take 20), unbody (b.drop 20) with
    | some r, some l => some (r :: l)
    | _, _ => none
termination_by b.length
decreasing_by rw [List.length_drop]; omega
theorem unbody_nil : unbody [] = some [] := by rw [unbody]; simp
theorem unbody_cons {b : List UInt8} (h : 20 ≤ b.length) : unbody b = (rd (b.take 20)).bind fun r => (unbody (b.drop 20)).map (r :: ·) := by
  rw [unbody, dif_neg (by omega)]
  cases rd (b.take 20) <;> simp
  cases unbody (b.drop 20) <;> simp
theorem unbody_mod : ∀ (k : Nat) (b : List UInt8), b.length ≤ k → ¬ b.length % 20 = 0 → unbody b = none
  | 0, b, h, hm => by have : b.length = 0 := by omega
                      rw [this] at hm; simp at hm
  | k + 1, b, h, hm => by
    by_cases h2 : b.length < 20
    · rw [unbody, dif_pos h2, if_neg (fun e => by rw [e] at hm; simp at hm)]
    · rw [unbody_cons (by omega), unbody_mod k (b.drop 20) (by rw [List.length_drop]; omega) (by rw [List.length_drop]; omega)]
      cases rd (b.take 20) <;> rfl
def untable : List (List UInt8) → Option (List Rt)
  | [] => some []
  | b :: r => (unbody b).bind fun l => (untable r).map (l ++ ·)
theorem untable_append : ∀ a b : List (List UInt8), untable (a ++ b) = (untable a).bind fun l => (untable b).map (l ++ ·)
  | [], b => by simp [untable]
  | x :: a, b => by
    rw [List.cons_append, untable, untable, untable_append a b]
    cases unbody x <;> simp
    cases untable a <;> simp
    cases untable b <;> simp
theorem untable_succ {bs : List (List UInt8)} {i : Nat} {b : List UInt8} (h : bs[i]? = some b) : untable (bs.take (i + 1)) = (untable (bs.take i)).bind fun l => (unbody b).map (l ++ ·) := by
  rw [List.take_add_one, h, Option.toList_some, untable_append, untable, untable]
  cases untable (bs.take i) with
  | none => rfl
  | some l => cases unbody b <;> simp
theorem untable_none {bs : List (List UInt8)} {i : Nat} (h : untable (bs.take i) = none) : untable bs = none := by
  rw [← List.take_append_drop i bs, untable_append, h]; rfl
def tabV (bs : List (List UInt8)) : List Rt := match untable bs with
  | some t => if tright t = true then t else []
  | none => []
def tabE (bs : List (List UInt8)) : Int := match untable bs with
  | some t => if tright t = true then 0 else 2
  | none => 2
theorem tab_none {bs : List (List UInt8)} (h : untable bs = none) : tabV bs = [] ∧ tabE bs = 2 := by simp [tabV, tabE, h]
theorem tab_bad {bs : List (List UInt8)} {t : List Rt} (h : untable bs = some t) (hr : tright t = false) : tabV bs = [] ∧ tabE bs = 2 := by simp [tabV, tabE, h, hr]
theorem tab_ok {bs : List (List UInt8)} {t : List Rt} (h : untable bs = some t) (hr : tright t = true) : tabV bs = t ∧ tabE bs = 0 := by simp [tabV, tabE, h, hr]

/-! What changed. -/
def chgAt (a b : List (List UInt8)) (i : Nat) : Option (Int × List UInt8) := if a.getD i [] = b.getD i [] then none else some ((i : Int), b.getD i [])
def chgTo (a b : List (List UInt8)) (n : Nat) : List (Int × List UInt8) := (List.range n).filterMap (chgAt a b)
def chg (a b : List (List UInt8)) : List (Int × List UInt8) := chgTo a b (max a.length b.length)
theorem chgTo_no {a b : List (List UInt8)} {n : Nat} (h : a.getD n [] = b.getD n []) : chgTo a b (n + 1) = chgTo a b n := by
  have e : chgAt a b n = none := by rw [chgAt, if_pos h]
  simp [chgTo, List.range_succ, e]
theorem chgTo_yes {a b : List (List UInt8)} {n : Nat} (h : ¬ a.getD n [] = b.getD n []) : chgTo a b (n + 1) = chgTo a b n ++ [((n : Int), b.getD n [])] := by
  have e : chgAt a b n = some ((n : Int), b.getD n []) := by rw [chgAt, if_neg h]
  simp [chgTo, List.range_succ, e]
theorem chgTo_length (a b : List (List UInt8)) (n : Nat) : (chgTo a b n).length ≤ n := by
  have := List.length_filterMap_le (chgAt a b) (List.range n)
  simpa [chgTo] using this

/-! The cells of a route that is read. -/
def rdok (b : List UInt8) : Bool := decide (b.getD 0 0 ≤ 1)
def rdv (b : List UInt8) : Rt := if rdok b = true then rdroute b else zroute
theorem rd_eq (b : List UInt8) : rd b = if rdok b = true then some (rdroute b) else none := by simp [rd, rdok]
theorem rdroute_hop (b : List UInt8) : (rdroute b).hop = hop16 (b.getD 18 0) (b.getD 19 0) := rfl
theorem unlaid_cells {b : List UInt8} (hb : b.length = 20) (v : Int) (hv : v = if b.getD 0 0 = 1 then 128 else 32) :
    (over (((rcells zroute).setIfInBounds 0 (.int .i64 v)).setIfInBounds 1 (.int .i64 (b.getD 1 0).toNat)) 2 (flatR benc ((b.drop 2).take 16)).toArray).setIfInBounds 18 (.int .u16 (hop16 (b.getD 18 0) (b.getD 19 0)).toNat) = rcells (rdroute b) := by
  have hk : (flatR benc ((b.drop 2).take 16)).toArray.size = 16 := by rw [List.size_toArray, flatR_length, List.length_take, List.length_drop, hb]; rfl
  have h0 : (rcells zroute).size = 19 := rcells_size _
  have hs : 2 + (flatR benc ((b.drop 2).take 16)).toArray.size ≤ (((rcells zroute).setIfInBounds 0 (.int .i64 v)).setIfInBounds 1 (.int .i64 (b.getD 1 0).toNat)).size := by rw [hk]; simp [h0]
  refine Array.ext_getElem? fun j => ?_
  rw [Array.getElem?_setIfInBounds, over_size hs, cells_over hs, hk]
  by_cases h18 : 18 = j
  · subst h18; rw [if_pos rfl, rcells_hop, rdroute_hop]; simp [h0]
  rw [if_neg h18]
  by_cases h2 : 2 ≤ j ∧ j < 2 + 16
  · rw [if_pos h2, rcells_p _ j (by omega), show j = 2 + (j - 2) by omega, pcells_k, kcells_get _ _ (by omega), show 2 + (j - 2) - 2 = j - 2 by omega]
    have hg : ((b.drop 2).take 16)[j - 2]? = some (b.getD j 0) := by
      rw [List.getElem?_take, if_pos (by omega), List.getElem?_drop, show 2 + (j - 2) = j by omega, List.getD, List.getElem?_eq_getElem (by omega)]; rfl
    have := flatR_get (enc := benc) ((b.drop 2).take 16) (j - 2) _ hg 0 (by decide)
    simp only [Nat.mul_one, Nat.add_zero] at this
    rw [show (flatR benc ((b.drop 2).take 16)).toArray[j - 2]? = (flatR benc ((b.drop 2).take 16))[j - 2]? by simp, this]
    have e : kbyte (rdroute b).p.key (j - 2) = (b.getD j 0).toNat := by
      show kbyte (kof fun i => (b.getD (2 + i) 0).toNat) (j - 2) = _
      rw [kbyte_kof _ _ (by omega), show 2 + (j - 2) = j by omega]
      have := (b.getD j 0).toNat_lt; omega
    rw [e]; rfl
  rw [if_neg h2, Array.getElem?_setIfInBounds]
  by_cases h1 : 1 = j
  · subst h1; rw [if_pos rfl, rcells_p _ 1 (by decide), pcells_1]; simp [h0, rdroute]
  rw [if_neg h1, Array.getElem?_setIfInBounds]
  by_cases hj : 0 = j
  · subst hj; rw [if_pos rfl, rcells_p _ 0 (by decide), pcells_0]; simp [h0, rdroute, hv]
  · rw [if_neg hj, Array.getElem?_eq_none (by rw [h0]; omega), Array.getElem?_eq_none (by rw [rcells_size]; omega)]

theorem de_two {xs : List UInt8} {k n : Nat} {a b : UInt8} (ha : xs[k]? = some a) (hb : xs[k + 1]? = some b) (hn : n = k + 2) : de ((xs.drop k).take (n - k)) = (hop16 a b).toNat := by
  have e : (xs.drop k).take (n - k) = [a, b] := by
    refine List.ext_getElem? fun j => ?_
    rw [List.getElem?_take, List.getElem?_drop]
    match j with
    | 0 => rw [if_pos (by omega)]; simpa using ha
    | 1 => rw [if_pos (by omega)]; simpa using hb
    | j + 2 => rw [if_neg (by omega)]; simp
  rw [e, hop16_toNat]; simp [de]
theorem rcells_set0 (r : Rt) (v : Int) : (rcells r).setIfInBounds 0 (.int .i64 v) = rcells ⟨⟨v, r.p.len, r.p.key⟩, r.hop⟩ := by
  refine Array.ext_getElem? fun j => ?_
  rw [Array.getElem?_setIfInBounds]
  have h0 : (rcells r).size = 19 := rcells_size _
  by_cases hj : 0 = j
  · subst hj; rw [if_pos rfl, rcells_p _ 0 (by decide), pcells_0]; simp [h0]
  rw [if_neg hj]
  match j, hj with
  | 1, _ => rw [rcells_p _ 1 (by decide), rcells_p _ 1 (by decide), pcells_1, pcells_1]
  | j + 2, _ =>
    rcases Nat.lt_or_ge j 16 with h | h
    · rw [rcells_p _ _ (by omega), rcells_p _ _ (by omega), Nat.add_comm j 2, pcells_k, pcells_k]
    · by_cases e : j = 16
      · subst e; rw [rcells_hop, rcells_hop]
      · rw [Array.getElem?_eq_none (by rw [h0]; omega), Array.getElem?_eq_none (by rw [rcells_size]; omega)]
def kpre (f : Nat → Nat) (n : Nat) : Key := kof fun j => if j < n then f j else 0
theorem kpre_zero (f : Nat → Nat) : kpre f 0 = 0#128 := by
  refine key_ext_byte fun j hj => ?_
  rw [kpre, kbyte_kof _ _ hj]; simp [kbyte]
theorem kpre_all (f : Nat → Nat) : kpre f 16 = kof f := by
  refine key_ext_byte fun j hj => ?_
  rw [kpre, kbyte_kof _ _ hj, kbyte_kof _ _ hj, if_pos hj]
theorem rcells_kpre {b l : Int} {h : UInt16} {f : Nat → Nat} {n : Nat} (hn : n < 16) (hf : f n < 256) :
    (rcells ⟨⟨b, l, kpre f n⟩, h⟩).setIfInBounds (2 + n) (.int .u8 (f n : Nat)) = rcells ⟨⟨b, l, kpre f (n + 1)⟩, h⟩ := by
  refine Array.ext_getElem? fun j => ?_
  rw [Array.getElem?_setIfInBounds]
  have h0 : ∀ r, (rcells r).size = 19 := rcells_size
  by_cases hj : 2 + n = j
  · subst hj
    have e : kbyte (kpre f (n + 1)) n = f n := by rw [kpre, kbyte_kof _ _ hn, if_pos (by omega)]; exact Nat.mod_eq_of_lt hf
    rw [if_pos rfl, rcells_p _ _ (by omega), pcells_k, kcells_get _ _ hn, if_pos (by rw [h0]; omega)]
    show _ = some (Value.int .u8 (kbyte (kpre f (n + 1)) n : Nat))
    rw [e]
  rw [if_neg hj]
  match j, hj with
  | 0, _ => rw [rcells_p _ 0 (by decide), rcells_p _ 0 (by decide), pcells_0, pcells_0]
  | 1, _ => rw [rcells_p _ 1 (by decide), rcells_p _ 1 (by decide), pcells_1, pcells_1]
  | j + 2, hj =>
    rcases Nat.lt_or_ge j 16 with h | h
    · rw [rcells_p _ _ (by omega), rcells_p _ _ (by omega), Nat.add_comm j 2, pcells_k, pcells_k, kcells_get _ _ h, kcells_get _ _ h, kpre, kpre, kbyte_kof _ _ h, kbyte_kof _ _ h]
      by_cases h1 : j < n
      · rw [if_pos h1, if_pos (by omega)]
      · rw [if_neg h1, if_neg (by omega)]
    · by_cases e : j = 16
      · subst e; rw [rcells_hop, rcells_hop]
      · rw [Array.getElem?_eq_none (by rw [h0]; omega), Array.getElem?_eq_none (by rw [h0]; omega)]
theorem rd_drop {b : List UInt8} {k : Nat} (i : Nat) (hi : i < 20) : ((b.drop k).take 20).getD i 0 = b.getD (k + i) 0 := by
  simp [List.getD, List.getElem?_take, hi, List.getElem?_drop]
theorem unbody_step {b : List UInt8} {k : Nat} (h : k + 20 ≤ b.length) : unbody (b.drop k) = (rd ((b.drop k).take 20)).bind fun r => (unbody (b.drop (k + 20))).map (r :: ·) := by
  rw [unbody_cons (by rw [List.length_drop]; omega), List.drop_drop]
theorem rd_at (xs : List UInt8) (k : Nat) : rdroute ((xs.drop k).take 20) = ⟨⟨if xs.getD k 0 = 1 then 128 else 32, (xs.getD (k + 1) 0).toNat, kpre (fun j => (xs.getD (k + (2 + j)) 0).toNat) 16⟩, hop16 (xs.getD (k + 18) 0) (xs.getD (k + 19) 0)⟩ := by
  have e := fun i h => rd_drop (b := xs) (k := k) i h
  have ek : (kof fun i => (((xs.drop k).take 20).getD (2 + i) 0).toNat) = kpre (fun j => (xs.getD (k + (2 + j)) 0).toNat) 16 := by
    rw [kpre_all]
    refine key_ext_byte fun j hj => ?_
    rw [kbyte_kof _ _ hj, kbyte_kof _ _ hj, e (2 + j) (by omega)]
  show (⟨⟨if ((xs.drop k).take 20).getD 0 0 = 1 then 128 else 32, (((xs.drop k).take 20).getD 1 0).toNat, kof fun i => (((xs.drop k).take 20).getD (2 + i) 0).toNat⟩, hop16 (((xs.drop k).take 20).getD 18 0) (((xs.drop k).take 20).getD 19 0)⟩ : Rt) = _
  rw [ek, e 0 (by decide), e 1 (by decide), e 18 (by decide), e 19 (by decide), Nat.add_zero]
theorem bodiesE_1 {t : List Rt} {ids room : Int} (h : most ids room = 0 ∨ tright t = false) : bodiesE t ids room = 1 ∧ bodiesV t ids room = [] := by
  have e : bodiesE t ids room = 1 := if_pos h.symm
  exact ⟨e, by rw [bodiesV, e]; rfl⟩
theorem bodiesE_5 {t : List Rt} {ids room : Int} (h : ¬ most ids room = 0) (h' : tright t = true) (h2 : most ids room < t.length) : bodiesE t ids room = 5 ∧ bodiesV t ids room = [] := by
  have e : bodiesE t ids room = 5 := by
    rw [bodiesE, if_neg (by simp [h, h']), if_pos h2]
  exact ⟨e, by rw [bodiesV, e]; rfl⟩
theorem bodiesE_0 {t : List Rt} {ids room : Int} (h : ¬ most ids room = 0) (h' : tright t = true) (h2 : ¬ most ids room < t.length) : bodiesE t ids room = 0 ∧ bodiesV t ids room = bodiesOf t ids.toNat (room / 20).toNat := by
  have e : bodiesE t ids room = 0 := by
    rw [bodiesE, if_neg (by simp [h, h']), if_neg h2]
  exact ⟨e, by rw [bodiesV, if_pos e]⟩
theorem lx_set {s : Sv} {xs : List (Sl UInt8)} {i : Nat} {y : Sl UInt8} : lx (⟨s, xs.set i y⟩ : Sl (Sl UInt8)) = (xs.map (·.xs)).set i y.xs := by simp [lx, List.map_set]
end Go.Kb

/- Contracts as classes. -/
namespace Go.Proofs.YtldkgicmfbofiaaGreatDoor
open Go.Eng Go.Kb
instance right_i {w0 : World} {L : List Ent} {s : Sv} {ss : List Rt} [h : HdE w0 L rcells 19 s ss] : FnQ Tryz.prog 5 w0 L [s.val] (.bool (tright ss)) True := ⟨fun _ w hw => right_c w s ss (h.h w hw)⟩

end Go.Proofs.YtldkgicmfbofiaaGreatDoor

/- What a trie's functions answer: steps, walk, find. No program in sight. -/
namespace Go.Kb

/-! Steps. -/
def stepOne (m i : Nat) (nd : Nd) (b : Nat) (a : List Int) : Option (List Int) :=
  if (nd.sl b).len < 0 ∨ 4 * a.getD i 0 + 1 < (nd.sl b).len then none
  else if nd.nx b = 0 then some a
  else if nd.nx b ≤ (i : Int) ∨ (m : Int) ≤ nd.nx b ∨ a.getD (nd.nx b).toNat 0 ≠ 0 then none
  else some (a.set (nd.nx b).toNat (a.getD i 0 + 1))
def stepsB (m i : Nat) (nd : Nd) : Nat → List Int → Option (List Int)
  | 0, a => some a
  | b + 1, a => (stepsB m i nd b a).bind (stepOne m i nd b)
def stepsN (bits : Int) (ns : List Nd) : Nat → Option (List Int)
  | 0 => some ((List.replicate ns.length 0).set 0 1)
  | i + 1 => (stepsN bits ns i).bind fun a => if a.getD i 0 = 0 ∨ bits / 4 < a.getD i 0 then none else stepsB ns.length i (ns.getD i Nd.zero) 16 a
def stepsV (bits : Int) (ns : List Nd) : Option (List Int) := if (bits = 32 ∨ bits = 128) ∧ 1 ≤ ns.length ∧ ns.length ≤ 512 then stepsN bits ns ns.length else none
theorem stepsN_none {bits : Int} {ns : List Nd} {i : Nat} (h : stepsN bits ns i = none) : ∀ j, i ≤ j → stepsN bits ns j = none := by
  intro j hj
  induction j with
  | zero => obtain rfl : i = 0 := by omega
            exact h
  | succ j ih =>
    rcases Nat.lt_or_ge j i with h' | h'
    · obtain rfl : i = j + 1 := by omega
      exact h
    · rw [stepsN, ih h']; rfl
theorem stepsB_none {m i : Nat} {nd : Nd} {a : List Int} {b : Nat} (h : stepsB m i nd b a = none) : ∀ c, b ≤ c → stepsB m i nd c a = none := by
  intro c hc
  induction c with
  | zero => obtain rfl : b = 0 := by omega
            exact h
  | succ c ih =>
    rcases Nat.lt_or_ge c b with h' | h'
    · obtain rfl : b = c + 1 := by omega
      exact h
    · rw [stepsB, ih h']; rfl
theorem stepsV_none {bits : Int} {ns : List Nd} {i : Nat} (hi : i ≤ ns.length) (h : stepsN bits ns i = none) : stepsV bits ns = none := by
  rw [stepsV]; split
  · exact stepsN_none h _ hi
  · rfl
section
variable {bits : Int} {ns : List Nd} {i : Nat} {a a2 : List Int} {nd : Nd}
theorem stepsV_bad (hi : i < ns.length) (h : stepsN bits ns i = some a) (hx : a.getD i 0 = 0 ∨ bits / 4 < a.getD i 0) : stepsV bits ns = none :=
  stepsV_none (i := i + 1) hi (by rw [stepsN, h, Option.bind_some, if_pos hx])
theorem stepsV_bad2 {b : Nat} (hi : i < ns.length) (h : stepsN bits ns i = some a) (hn : ns[i]? = some nd) (hb : b < 16) (h2 : stepsB ns.length i nd b a = some a2) (h3 : stepOne ns.length i nd b a2 = none) : stepsV bits ns = none :=
  stepsV_none (i := i + 1) hi (by
    rw [stepsN, h, Option.bind_some]
    split
    · rfl
    · have e : ns.getD i Nd.zero = nd := by rw [List.getD_eq_getElem?_getD, hn]; rfl
      rw [e]
      exact stepsB_none (b := b + 1) (by rw [stepsB, h2, Option.bind_some, h3]) _ hb)
theorem stepsN_next (h : stepsN bits ns i = some a) (hn : ns[i]? = some nd) (hx : ¬ (a.getD i 0 = 0 ∨ bits / 4 < a.getD i 0)) (h2 : stepsB ns.length i nd 16 a = some a2) : stepsN bits ns (i + 1) = some a2 := by
  have e : ns.getD i Nd.zero = nd := by rw [List.getD_eq_getElem?_getD, hn]; rfl
  rw [stepsN, h, Option.bind_some, if_neg hx, e, h2]
theorem getD_some {α : Type} {xs : List α} {i : Nat} {x d : α} (h : xs[i]? = some x) : xs.getD i d = x := by rw [List.getD_eq_getElem?_getD, h]; rfl
end

/-! Nodes that lead to nodes. -/
def InR (ns : List Nd) : Prop := ∀ (i : Nat) (nd : Nd), ns[i]? = some nd → ∀ b : Nat, b < 16 → 0 ≤ nd.nx b ∧ nd.nx b < ns.length
theorem stepsB_some {m i : Nat} {nd : Nd} {a a2 : List Int} : ∀ {n : Nat}, stepsB m i nd n a = some a2 → ∀ b, b < n → nd.nx b = 0 ∨ (i : Int) < nd.nx b ∧ nd.nx b < m := by
  intro n
  induction n generalizing a2 with
  | zero => intro _ b hb; omega
  | succ n ih =>
    intro h b hb
    rw [stepsB] at h
    cases e : stepsB m i nd n a with
    | none => rw [e] at h; cases h
    | some a3 =>
      rcases Nat.lt_or_ge b n with h' | h'
      · exact ih e b h'
      · obtain rfl : b = n := by omega
        rw [e, Option.bind_some, stepOne] at h
        split at h
        · cases h
        · split at h
          · left; assumption
          · split at h
            · cases h
            · right; omega
theorem stepsN_some {bits : Int} {ns : List Nd} {a : List Int} : ∀ {n : Nat}, stepsN bits ns n = some a → ∀ i nd, i < n → ns[i]? = some nd → ∀ b, b < 16 → nd.nx b = 0 ∨ (i : Int) < nd.nx b ∧ nd.nx b < ns.length := by
  intro n
  induction n generalizing a with
  | zero => intro _ i nd hi; omega
  | succ n ih =>
    intro h i nd hi hn b hb
    rw [stepsN] at h
    cases e : stepsN bits ns n with
    | none => rw [e] at h; cases h
    | some a3 =>
      rcases Nat.lt_or_ge i n with h' | h'
      · exact ih e i nd h' hn b hb
      · obtain rfl : i = n := by omega
        rw [e, Option.bind_some] at h
        split at h
        · cases h
        · rw [getD_some hn] at h
          exact stepsB_some h b hb
theorem inR_of {bits : Int} {ns : List Nd} (h : (stepsV bits ns).isSome = true) : InR ns ∧ (bits = 32 ∨ bits = 128) ∧ 1 ≤ ns.length ∧ ns.length ≤ 512 := by
  rw [stepsV] at h
  split at h
  · rename_i hc
    refine ⟨fun i nd hi b hb => ?_, hc⟩
    obtain ⟨a, ha⟩ := Option.isSome_iff_exists.1 h
    have hil := (List.getElem?_eq_some_iff.1 hi).1
    rcases stepsN_some ha i nd hil hi b hb with h1 | h1
    · omega
    · omega
  · cases h

theorem stepsB_len {m i : Nat} {nd : Nd} {a a2 : List Int} : ∀ {n : Nat}, stepsB m i nd n a = some a2 → a2.getD i 0 = a.getD i 0 ∧ ∀ b, b < n → 0 ≤ (nd.sl b).len ∧ (nd.sl b).len ≤ 4 * a.getD i 0 + 1 := by
  intro n
  induction n generalizing a2 with
  | zero => intro h; rw [stepsB] at h; exact ⟨by rw [Option.some.inj h], fun b hb => by omega⟩
  | succ n ih =>
    intro h
    rw [stepsB] at h
    cases e : stepsB m i nd n a with
    | none => rw [e] at h; cases h
    | some a3 =>
      obtain ⟨ih1, ih2⟩ := ih e
      rw [e, Option.bind_some, stepOne] at h
      split at h
      · cases h
      · rename_i h1
        have hb2 : ∀ b, b < n + 1 → 0 ≤ (nd.sl b).len ∧ (nd.sl b).len ≤ 4 * a.getD i 0 + 1 := fun b hb => by
          rcases Nat.lt_or_ge b n with h' | h'
          · exact ih2 b h'
          · obtain rfl : b = n := by omega
            rw [← ih1]; omega
        split at h
        · exact ⟨by rw [← Option.some.inj h]; exact ih1, hb2⟩
        · split at h
          · cases h
          · refine ⟨?_, hb2⟩
            rw [← Option.some.inj h, ← ih1, List.getD_eq_getElem?_getD, List.getD_eq_getElem?_getD, List.getElem?_set_ne (by omega)]
theorem stepsN_len {bits : Int} {ns : List Nd} {a : List Int} : ∀ {n : Nat}, stepsN bits ns n = some a → ∀ (i : Nat) (nd : Nd), i < n → ns[i]? = some nd → ∀ b, b < 16 → 0 ≤ (nd.sl b).len ∧ (nd.sl b).len ≤ 4 * (bits / 4) + 1 := by
  intro n
  induction n generalizing a with
  | zero => intro _ i nd hi; omega
  | succ n ih =>
    intro h i nd hi hn b hb
    rw [stepsN] at h
    cases e : stepsN bits ns n with
    | none => rw [e] at h; cases h
    | some a3 =>
      rcases Nat.lt_or_ge i n with h' | h'
      · exact ih e i nd h' hn b hb
      · obtain rfl : i = n := by omega
        rw [e, Option.bind_some] at h
        split at h
        · cases h
        · rw [getD_some hn] at h
          have := (stepsB_len h).2 b hb
          omega
theorem len_of {bits : Int} {ns : List Nd} (h : (stepsV bits ns).isSome = true) {i : Nat} {nd : Nd} (hn : ns[i]? = some nd) {b : Nat} (hb : b < 16) : 0 ≤ (nd.sl b).len ∧ (nd.sl b).len ≤ 129 := by
  obtain ⟨_, hbits, _⟩ := inR_of h
  rw [stepsV] at h
  split at h
  · obtain ⟨a, ha⟩ := Option.isSome_iff_exists.1 h
    have := stepsN_len ha i nd (List.getElem?_eq_some_iff.1 hn).1 hn b hb
    omega
  · cases h

/-! The way of a key. -/
def chain (ns : List Nd) (k : Key) : Nat → Nat
  | 0 => 0
  | n + 1 => ((ns.getD (chain ns k n) Nd.zero).nx (kst k n)).toNat
theorem chain_lt {ns : List Nd} {k : Key} (h : InR ns) (h0 : 0 < ns.length) : ∀ n, chain ns k n < ns.length
  | 0 => h0
  | n + 1 => by
    have ih := chain_lt (k := k) h h0 n
    obtain ⟨nd, hn⟩ : ∃ nd, ns[chain ns k n]? = some nd := ⟨ns[chain ns k n], by simp [ih]⟩
    have := h _ nd hn (kst k n) (kst_lt k n)
    rw [chain, getD_some hn]; omega
def wayLen (ns : List Nd) (k : Key) (n : Nat) : Nat := ((List.range n).find? fun j => chain ns k (j + 1) == 0).getD n
theorem wayLen_stop {ns : List Nd} {k : Key} {n i : Nat} (hi : i < n) (h : ∀ j, j < i → chain ns k (j + 1) ≠ 0) (h0 : chain ns k (i + 1) = 0) : wayLen ns k n = i := by
  unfold wayLen
  have : (List.range n).find? (fun j => chain ns k (j + 1) == 0) = some i := by
    rw [List.find?_range_eq_some]
    exact ⟨by simpa using h0, by simpa using hi, fun j hj => by simpa using h j hj⟩
  rw [this]; rfl
theorem wayLen_all {ns : List Nd} {k : Key} {n : Nat} (h : ∀ j, j < n → chain ns k (j + 1) ≠ 0) : wayLen ns k n = n := by
  unfold wayLen
  have : (List.range n).find? (fun j => chain ns k (j + 1) == 0) = none := by
    rw [List.find?_range_eq_none]
    intro j hj
    simpa using h j hj
  rw [this]; rfl
def wayL (ns : List Nd) (k : Key) (n : Nat) : List Int := (List.range (n + 1)).map fun j => ((chain ns k j : Nat) : Int)
theorem wayL_zero (ns : List Nd) (k : Key) : wayL ns k 0 = [0] := rfl
theorem wayL_succ (ns : List Nd) (k : Key) (n : Nat) : wayL ns k (n + 1) = wayL ns k n ++ [((chain ns k (n + 1) : Nat) : Int)] := by simp [wayL, List.range_succ]
theorem wayL_length (ns : List Nd) (k : Key) (n : Nat) : (wayL ns k n).length = n + 1 := by simp [wayL]
theorem wayL_get {ns : List Nd} {k : Key} {n i : Nat} (h : i ≤ n) : (wayL ns k n)[i]? = some ((chain ns k i : Nat) : Int) := by
  simp [wayL, show i < n + 1 by omega]
def walkOk (bits : Int) (ns : List Nd) (k : Key) : Bool := (stepsV bits ns).isSome && decide (kcut k bits = k)
def walkV (bits : Int) (ns : List Nd) (k : Key) : List Int := if walkOk bits ns k = true then wayL ns k (wayLen ns k (bits / 4).toNat) else []

/-! The best slot on a key's way. -/
def bestOf (ns : List Nd) (k : Key) : Nat → Slt
  | 0 => Slt.no
  | n + 1 => let s := (ns.getD (chain ns k n) Nd.zero).sl (kst k n)
    if (bestOf ns k n).len < s.len then s else bestOf ns k n
theorem bestOf_rng {bits : Int} {ns : List Nd} {k : Key} (h : (stepsV bits ns).isSome = true) : ∀ n, 0 ≤ (bestOf ns k n).len ∧ (bestOf ns k n).len ≤ 129
  | 0 => by simp [bestOf, Slt.no]
  | n + 1 => by
    obtain ⟨h1, _, h3, _⟩ := inR_of h
    have ih := bestOf_rng (k := k) h n
    have hl := chain_lt (k := k) h1 (by omega) n
    obtain ⟨nd, hn⟩ : ∃ nd, ns[chain ns k n]? = some nd := ⟨ns[chain ns k n], by simp [hl]⟩
    have := len_of h hn (kst_lt k n)
    simp only [bestOf, getD_some hn]
    split <;> omega
theorem walkV_len {bits : Int} {ns : List Nd} {k : Key} : (walkV bits ns k).length = 0 ↔ walkOk bits ns k = false := by
  unfold walkV; split
  · rename_i h; simp [wayL_length, h]
  · rename_i h; simpa using h
theorem walkV_get {bits : Int} {ns : List Nd} {k : Key} {i : Nat} (h : i < (walkV bits ns k).length) : (walkV bits ns k)[i]? = some ((chain ns k i : Nat) : Int) := by
  unfold walkV at h ⊢
  split at h
  · rename_i hk; rw [if_pos hk]; rw [wayL_length] at h; exact wayL_get (by omega)
  · simp at h
def findS (bits : Int) (ns : List Nd) (k : Key) : Slt := bestOf ns k (walkV bits ns k).length
def findE (bits : Int) (ns : List Nd) (k : Key) : Int := if walkOk bits ns k = true then (if (findS bits ns k).len = 0 then 6 else 0) else 1
def findN (bits : Int) (ns : List Nd) (k : Key) : Int := if findE bits ns k = 0 then (findS bits ns k).len - 1 else 0
def findH (bits : Int) (ns : List Nd) (k : Key) : UInt16 := if findE bits ns k = 0 then (findS bits ns k).hop else 0
def deepV (bits : Int) (ns : List Nd) : Int := ((stepsV bits ns).getD []).foldl max 0
end Go.Kb

/- Of a table's trie: its steps, a key's way in it, what it finds. No program in sight. -/
namespace Go.Kb

structure WB (bits : Int) (W : List Wy) : Prop where
  w : WOk W
  room : ∀ v ∈ W, 4 * ((v.steps : Int) + 1) ≤ bits
theorem room_of {p : Pfx} (h : pmay p = true) {s : Nat} (hs : s ≤ lastN p) : 4 * ((s : Int) + 1) ≤ p.bits := by
  obtain ⟨h1, h2, h3, _⟩ := (pmay_iff p).1 h
  unfold lastN at hs; omega
theorem ways_mem {bits : Int} : ∀ {t : List Rt} {v : Wy}, v ∈ waysF bits t → v = root ∨ ∃ r ∈ t, r.p.bits = bits ∧ ∃ s, 1 ≤ s ∧ s ≤ lastN r.p ∧ v = wayAt r.p.key s := by
  intro t
  suffices h : ∀ (t : List Rt) (W : List Wy) (v : Wy), v ∈ t.foldl (fun W r => addWs W r bits) W → v ∈ W ∨ ∃ r ∈ t, r.p.bits = bits ∧ ∃ s, 1 ≤ s ∧ s ≤ lastN r.p ∧ v = wayAt r.p.key s by
    intro v hv
    rcases h t [root] v hv with h1 | h1
    · exact .inl (List.mem_singleton.1 h1)
    · exact .inr h1
  intro t
  induction t with
  | nil => intro W v hv; exact .inl hv
  | cons r t ih =>
    intro W v hv
    rcases ih _ v hv with h1 | ⟨r', h2, h3⟩
    · replace h1 : v ∈ addWs W r bits := h1
      unfold addWs at h1
      split at h1
      · rename_i hb
        rcases addTo_mem.1 h1 with h1 | ⟨s, h4, h5, h6⟩
        · exact .inl h1
        · exact .inr ⟨r, by simp, hb, s, h4, h5, h6⟩
      · exact .inl h1
    · exact .inr ⟨r', by simp [h2], h3⟩
theorem ways_bits {bits : Int} {t : List Rt} (hb : bits = 32 ∨ bits = 128) (h : ∀ r ∈ t, pmay r.p = true) : WB bits (waysF bits t) := ⟨ways_ok h, fun v hv => by
  rcases ways_mem hv with rfl | ⟨r, h1, h2, s, h3, h4, rfl⟩
  · simp only [root]; omega
  · have := room_of (h r h1) h4
    rw [h2] at this; exact this⟩

def par (v : Wy) : Wy := wayAt v.key (v.steps - 1)
theorem par_child {v : Wy} (hv : v.ok) (hs : 0 < v.steps) : child (par v) (kst v.key (v.steps - 1)) = v := by
  rw [par, child_wayAt _ _ (by have := hv.1; omega), show v.steps - 1 + 1 = v.steps by omega]
  obtain ⟨s, k⟩ := v
  rw [wayAt]; congr 1; exact hv.2
theorem child_par {v : Wy} (hv : v.ok) {b : Nat} (hb : b < 16) : par (child v b) = v ∧ kst (child v b).key ((child v b).steps - 1) = b := by
  obtain ⟨s, k⟩ := v
  have h1 := rset_cut (n := s) (b := b) (k := k) hv.1 hb hv.2
  have h2 := rset_kst (n := s) (b := b) (k := k) hv.1 hb hv.2
  refine ⟨?_, h2⟩
  simp only [par, child, wayAt, Nat.add_sub_cancel]
  rw [h1]

section
variable {bits : Int} {W : List Wy} {R : List Rt}
theorem par_lt (hW : WOk W) {i : Nat} {v : Wy} (hi : W[i]? = some v) (hs : 0 < v.steps) : ∃ j, j < i ∧ W[j]? = some (par v) := hW.ord i v hi (v.steps - 1) (by omega)
theorem idx_par (hW : WOk W) {i : Nat} {v : Wy} (hi : W[i]? = some v) (hs : 0 < v.steps) : W.idxOf (par v) < i := by
  obtain ⟨j, hj, e⟩ := par_lt hW hi hs
  rw [get_idx hW.nodup e]; exact hj

def lab (W : List Wy) (i b : Nat) (v : Wy) : Int :=
  if v.steps = 0 ∨ W.idxOf (par v) < i ∨ W.idxOf (par v) = i ∧ kst v.key (v.steps - 1) < b then (v.steps : Int) + 1 else 0
def labs (W : List Wy) (i b : Nat) : List Int := W.map (lab W i b)
theorem labs_get {i b j : Nat} {v : Wy} (hj : W[j]? = some v) : (labs W i b)[j]? = some (lab W i b v) := by simp [labs, hj]
theorem labs_zero (hW : WOk W) : labs W 0 0 = (List.replicate W.length 0).set 0 1 := by
  refine List.ext_getElem? fun j => ?_
  rcases Nat.lt_or_ge j W.length with hj | hj
  · obtain ⟨v, hv⟩ : ∃ v, W[j]? = some v := ⟨W[j], by simp [hj]⟩
    rw [labs_get hv, List.getElem?_set]
    split
    · rename_i e; subst e
      obtain rfl := Option.some.inj (hv.symm.trans hW.root)
      rw [if_pos (by simpa using hj)]; rfl
    · rename_i e
      have hs : v.steps ≠ 0 := fun h0 => e (by
        have hvk := hW.ok v (List.mem_of_getElem? hv)
        have : v = root := by
          obtain ⟨s, k⟩ := v
          simp only at h0; subst h0
          have := hvk.2
          simp only [Nat.mul_zero] at this
          rw [kcut_none _ _ (by decide)] at this
          rw [root, ← this]
        subst this
        exact get_inj hW.nodup hW.root hv)
      rw [lab, if_neg (by omega)]
      simp [hj]
  · rw [List.getElem?_eq_none (by simp [labs]; omega), List.getElem?_eq_none (by simp; omega)]
theorem labs_row (i : Nat) : labs W i 16 = labs W (i + 1) 0 := by
  refine List.map_congr_left fun v _ => ?_
  have := kst_lt v.key (v.steps - 1)
  unfold lab
  by_cases h1 : v.steps = 0
  · simp [h1]
  · by_cases h2 : W.idxOf (par v) < i + 1
    · rw [if_pos (by omega), if_pos (by omega)]
    · rw [if_neg (by omega), if_neg (by omega)]
theorem lab_self (hW : WOk W) {i b : Nat} {v : Wy} (hi : W[i]? = some v) : lab W i b v = (v.steps : Int) + 1 := by
  unfold lab
  by_cases h : v.steps = 0
  · rw [if_pos (.inl h)]
  · rw [if_pos (.inr (.inl (idx_par hW hi (by omega))))]
theorem slotF_len {w : Wy} {b : Nat} (hm : ∀ r ∈ R, pmay r.p = true) : 0 ≤ (slotF bits R w b).len ∧ (slotF bits R w b).len ≤ 4 * ((w.steps : Int) + 1) + 1 := by
  suffices h : ∀ (R : List Rt) (s : Slt), (∀ r ∈ R, pmay r.p = true) → 0 ≤ s.len ∧ s.len ≤ 4 * ((w.steps : Int) + 1) + 1 → 0 ≤ (R.foldl (slotUp bits w b) s).len ∧ (R.foldl (slotUp bits w b) s).len ≤ 4 * ((w.steps : Int) + 1) + 1 from h R _ hm (by simp [Slt.no]; omega)
  intro R
  induction R with
  | nil => intro s _ h; exact h
  | cons r R ih =>
    intro s hm h
    refine ih _ (fun x hx => hm x (by simp [hx])) ?_
    unfold slotUp
    split
    · rename_i hh
      obtain ⟨h1, h2, h3, _⟩ := (pmay_iff r.p).1 (hm r (by simp))
      have := hh.1
      simp only [hit, Bool.and_eq_true, decide_eq_true_eq] at this
      have hl := this.1.2
      unfold lastN at hl
      simp only; omega
    · exact h
theorem labs_step (hW : WOk W) {i b : Nat} {v : Wy} (hi : W[i]? = some v) (hb : b < 16) (hm : ∀ r ∈ R, pmay r.p = true) :
    stepOne W.length i (nodeF bits W R v) b (labs W i b) = some (labs W i (b + 1)) := by
  have hvk := hW.ok v (List.mem_of_getElem? hi)
  have hx : (labs W i b).getD i 0 = (v.steps : Int) + 1 := by rw [getD_some (labs_get hi), lab_self hW hi]
  have hsl := slotF_len (bits := bits) (w := v) (b := b) hm
  rw [stepOne, hx, nodeF, Nd.sl_mk' hb, Nd.nx_mk' hb, if_neg (by omega)]
  have key : ∀ u, u ∈ W → u.steps ≠ 0 → W.idxOf (par u) = i → kst u.key (u.steps - 1) = b → u = child v b := fun u hu h1 h2 h3 => by
    have hpu : par u ∈ W := hW.up u hu _ (by omega)
    have := idx_get hpu
    rw [h2, hi] at this
    rw [Option.some.inj this, ← h3, par_child (hW.ok u hu) (by omega)]
  by_cases h : child v b ∈ W
  · have hpos := (nextF_pos hW).2 h
    obtain ⟨hp1, hp2⟩ := child_par hvk hb
    have hget := idx_get h
    have hidx : W.idxOf (par (child v b)) = i := by rw [hp1]; exact get_idx hW.nodup hi
    have hlt := idx_par hW hget (by simp [child])
    rw [hidx] at hlt
    have hln := idx_lt h
    have hn : nextF W v b = (W.idxOf (child v b) : Nat) := by rw [nextF, if_pos h]
    have hz : (labs W i b).getD (nextF W v b).toNat 0 = 0 := by
      rw [hn, Int.toNat_natCast, getD_some (labs_get hget), lab, if_neg]
      rw [hidx, hp2]; simp [child]
    rw [if_neg (by omega), if_neg (by omega), hn, Int.toNat_natCast]
    refine congrArg some (List.ext_getElem? fun j => ?_)
    rw [List.getElem?_set]
    rcases Nat.lt_or_ge j W.length with hj | hj
    · obtain ⟨u, hu⟩ : ∃ u, W[j]? = some u := ⟨W[j], by simp [hj]⟩
      rw [labs_get hu, labs_get hu]
      split
      · rename_i e; subst e
        obtain rfl := Option.some.inj (hget.symm.trans hu)
        rw [if_pos (by simp [labs]; exact hj), lab, if_pos (.inr (.inr ⟨hidx, by omega⟩))]
        simp [child]
      · rename_i e
        have hne : u ≠ child v b := fun e' => by subst e'; exact e (get_inj hW.nodup hget hu)
        congr 1
        unfold lab
        by_cases h1 : u.steps = 0
        · rw [if_pos (.inl h1), if_pos (.inl h1)]
        · have hk := fun h2 h3 => hne (key u (List.mem_of_getElem? hu) h1 h2 h3)
          by_cases h2 : W.idxOf (par u) = i ∧ kst u.key (u.steps - 1) < b + 1
          · have : ¬ kst u.key (u.steps - 1) = b := hk h2.1
            rw [if_pos (.inr (.inr ⟨h2.1, by omega⟩)), if_pos (.inr (.inr h2))]
          · by_cases h4 : W.idxOf (par u) < i
            · rw [if_pos (.inr (.inl h4)), if_pos (.inr (.inl h4))]
            · rw [if_neg (by omega), if_neg (by omega)]
    · rw [List.getElem?_eq_none (by simp [labs]; omega), List.getElem?_eq_none (by simp [labs]; omega), if_neg (by omega)]
  · have hn : nextF W v b = 0 := by rw [nextF, if_neg h]
    rw [if_pos hn]
    refine congrArg some (List.map_congr_left fun u hu => ?_)
    unfold lab
    by_cases h1 : u.steps = 0
    · rw [if_pos (.inl h1), if_pos (.inl h1)]
    · have hk : ∀ h2 : W.idxOf (par u) = i, ¬ kst u.key (u.steps - 1) = b := fun h2 h3 => h (key u hu h1 h2 h3 ▸ hu)
      by_cases h2 : W.idxOf (par u) = i ∧ kst u.key (u.steps - 1) < b + 1
      · have := hk h2.1
        rw [if_pos (.inr (.inr ⟨h2.1, by omega⟩)), if_pos (.inr (.inr h2))]
      · by_cases h4 : W.idxOf (par u) < i
        · rw [if_pos (.inr (.inl h4)), if_pos (.inr (.inl h4))]
        · rw [if_neg (by omega), if_neg (by omega)]
theorem steps_row (hW : WOk W) {i : Nat} {v : Wy} (hi : W[i]? = some v) (hm : ∀ r ∈ R, pmay r.p = true) : ∀ b, b ≤ 16 → stepsB W.length i (nodeF bits W R v) b (labs W i 0) = some (labs W i b)
  | 0, _ => rfl
  | b + 1, hb => by rw [stepsB, steps_row hW hi hm b (by omega), Option.bind_some, labs_step hW hi (by omega) hm]
theorem steps_all (hW : WB bits W) (hm : ∀ r ∈ R, pmay r.p = true) : ∀ i, i ≤ W.length → stepsN bits (nodes bits W R) i = some (labs W i 0)
  | 0, _ => by rw [stepsN, nodes_length, labs_zero hW.w]
  | i + 1, hi => by
    obtain ⟨v, hv⟩ : ∃ v, W[i]? = some v := ⟨W[i], by simp [show i < W.length by omega]⟩
    have hr := hW.room v (List.mem_of_getElem? hv)
    have hx : (labs W i 0).getD i 0 = (v.steps : Int) + 1 := by rw [getD_some (labs_get hv), lab_self hW.w hv]
    rw [stepsN, steps_all hW hm i (by omega), Option.bind_some, hx, if_neg (by omega), nodes_getD hv, nodes_length, steps_row hW.w hv hm 16 (Nat.le_refl _), labs_row]
theorem steps_eq (hb : bits = 32 ∨ bits = 128) (hW : WB bits W) (hm : ∀ r ∈ R, pmay r.p = true) (hl : W.length ≤ 512) : stepsV bits (nodes bits W R) = some (W.map fun v => (v.steps : Int) + 1) := by
  rw [stepsV, nodes_length, if_pos ⟨hb, hW.w.ne, hl⟩, steps_all hW hm _ (Nat.le_refl _)]
  refine congrArg some (List.map_congr_left fun v hv => ?_)
  unfold lab
  by_cases h : v.steps = 0
  · rw [if_pos (.inl h)]
  · rw [if_pos (.inr (.inl (idx_lt (hW.w.up v hv _ (by omega)))))]

/-! A key's way. -/
theorem chain_at (hW : WOk W) {k : Key} : ∀ {n : Nat}, n ≤ 32 → (∀ j, j ≤ n → wayAt k j ∈ W) → chain (nodes bits W R) k n = W.idxOf (wayAt k n)
  | 0, _, _ => by rw [chain, wayAt_zero, get_idx hW.nodup hW.root]
  | n + 1, hn, h => by
    have ih := chain_at hW (k := k) (n := n) (by omega) fun j hj => h j (by omega)
    have hw := idx_get (h n (by omega))
    rw [chain, ih, nodes_getD hw, nodeF, Nd.nx_mk' (kst_lt k n), nextF, child_wayAt _ _ (by omega), if_pos (h (n + 1) (Nat.le_refl _)), Int.toNat_natCast]
theorem chain_end (hW : WOk W) {k : Key} {n : Nat} (hn : n < 32) (h : ∀ j, j ≤ n → wayAt k j ∈ W) (h2 : wayAt k (n + 1) ∉ W) : chain (nodes bits W R) k (n + 1) = 0 := by
  have hw := idx_get (h n (Nat.le_refl _))
  rw [chain, chain_at hW (by omega) h, nodes_getD hw, nodeF, Nd.nx_mk' (kst_lt k n), nextF, child_wayAt _ _ hn, if_neg h2]; rfl
def deepK (W : List Wy) (k : Key) (n : Nat) : Nat := ((List.range n).find? fun j => decide (wayAt k (j + 1) ∉ W)).getD n
theorem deepK_le {k : Key} {n : Nat} : deepK W k n ≤ n := by
  unfold deepK
  cases h : (List.range n).find? fun j => decide (wayAt k (j + 1) ∉ W) with
  | none => exact Nat.le_refl _
  | some i => have := List.mem_of_find?_eq_some h; simp at this; exact Nat.le_of_lt this
theorem deepK_in (hW : WOk W) {k : Key} {n j : Nat} (hj : j ≤ deepK W k n) : wayAt k j ∈ W := by
  rcases Nat.eq_zero_or_pos j with e | e
  · subst e; rw [wayAt_zero]; exact List.mem_of_getElem? hW.root
  · unfold deepK at hj
    cases h : (List.range n).find? fun j => decide (wayAt k (j + 1) ∉ W) with
    | none =>
      rw [h] at hj
      have := List.find?_eq_none.1 h (j - 1) (by simp at hj ⊢; omega)
      simpa [show j - 1 + 1 = j by omega] using this
    | some i =>
      rw [h] at hj
      obtain ⟨_, _, h3⟩ := List.find?_range_eq_some.1 h
      have := h3 (j - 1) (by simp at hj; omega)
      simpa [show j - 1 + 1 = j by omega] using this
theorem deepK_out {k : Key} {n : Nat} (h : deepK W k n < n) : wayAt k (deepK W k n + 1) ∉ W := by
  unfold deepK at h ⊢
  cases e : (List.range n).find? fun j => decide (wayAt k (j + 1) ∉ W) with
  | none => rw [e] at h; simp at h
  | some i =>
    rw [e] at h
    have := (List.find?_range_eq_some.1 e).1
    simpa using this
theorem wayAt_down (hW : WOk W) {k : Key} {i j : Nat} (hij : i ≤ j) (h : wayAt k j ∈ W) : wayAt k i ∈ W := by
  have := hW.up _ h i hij
  rwa [wayAt_up _ _ _ hij] at this
theorem deepK_iff (hW : WOk W) {k : Key} {n j : Nat} (hn : ∀ v ∈ W, v.steps < n) : wayAt k j ∈ W ↔ j ≤ deepK W k n := by
  refine ⟨fun h => ?_, deepK_in hW⟩
  rcases Nat.lt_or_ge (deepK W k n) j with h1 | h1
  · have hjn := hn _ h
    have : wayAt k (deepK W k n + 1) ∈ W := wayAt_down hW h1 h
    exact absurd this (deepK_out (by have : j < n := hjn; omega))
  · exact h1
theorem idx_pos (hW : WOk W) {k : Key} {n : Nat} (h : wayAt k (n + 1) ∈ W) : 0 < W.idxOf (wayAt k (n + 1)) := by
  have := idx_get h
  rcases Nat.eq_zero_or_pos (W.idxOf (wayAt k (n + 1))) with e | e
  · rw [e, hW.root] at this
    have := congrArg Wy.steps (Option.some.inj this)
    simp [root, wayAt] at this
  · exact e
theorem wayLen_eq (hW : WB bits W) (hb : bits = 32 ∨ bits = 128) {k : Key} : wayLen (nodes bits W R) k (bits / 4).toNat = deepK W k (bits / 4).toNat ∧ deepK W k (bits / 4).toNat < (bits / 4).toNat := by
  have hn : ∀ v ∈ W, v.steps < (bits / 4).toNat := fun v hv => by have := hW.room v hv; omega
  have hd : deepK W k (bits / 4).toNat < (bits / 4).toNat := hn _ (deepK_in hW.w (Nat.le_refl _))
  refine ⟨wayLen_stop hd (fun j hj => ?_) ?_, hd⟩
  · rw [chain_at hW.w (by omega) fun i hi => deepK_in hW.w (n := (bits / 4).toNat) (by omega)]
    have := idx_pos hW.w (deepK_in hW.w (k := k) (n := (bits / 4).toNat) (j := j + 1) (by omega))
    omega
  · exact chain_end hW.w (by omega) (fun j hj => deepK_in hW.w hj) (deepK_out hd)
end

/-! How deep a table's trie is, and how many nodes it has. -/
def deepR (bits : Int) (R : List Rt) : Int := R.foldl (fun d r => if r.p.bits = bits then max d ((lastN r.p : Int) + 1) else d) 1
def allR (bits : Int) (R : List Rt) : Int := R.foldl (fun d r => if r.p.bits = bits then d + (lastN r.p : Int) else d) 1
theorem deepR_snoc (bits : Int) (R : List Rt) (r : Rt) : deepR bits (R ++ [r]) = if r.p.bits = bits then max (deepR bits R) ((lastN r.p : Int) + 1) else deepR bits R := by simp [deepR]
theorem allR_snoc (bits : Int) (R : List Rt) (r : Rt) : allR bits (R ++ [r]) = if r.p.bits = bits then allR bits R + (lastN r.p : Int) else allR bits R := by simp [allR]
theorem take_snoc {α : Type} {t : List α} {i : Nat} {r : α} (h : t[i]? = some r) : t.take (i + 1) = t.take i ++ [r] := by
  obtain ⟨hi, rfl⟩ := List.getElem?_eq_some_iff.1 h
  exact List.take_succ_eq_append_getElem hi
theorem deepR_take {bits : Int} {t : List Rt} (n : Nat) (hm : ∀ r ∈ t, pmay r.p = true) : 1 ≤ deepR bits (t.take n) ∧ deepR bits (t.take n) ≤ 32 ∧ (∀ r ∈ t.take n, r.p.bits = bits → (lastN r.p : Int) + 1 ≤ deepR bits (t.take n)) ∧ (deepR bits (t.take n) = 1 ∨ ∃ r ∈ t.take n, r.p.bits = bits ∧ deepR bits (t.take n) = (lastN r.p : Int) + 1) := by
  induction n with
  | zero => exact ⟨by simp [deepR], by simp [deepR], fun r hr => by simp at hr, .inl (by simp [deepR])⟩
  | succ n ih =>
    rcases Nat.lt_or_ge n t.length with h | h
    · have hr : t[n]? = some t[n] := by simp [h]
      have hl := lastN_lt (hm t[n] (by simp))
      rw [take_snoc hr, deepR_snoc]
      obtain ⟨h1, h2, h3, h4⟩ := ih
      split
      · rename_i hb
        refine ⟨by omega, by omega, fun r hr' hb' => ?_, ?_⟩
        · rcases List.mem_append.1 hr' with hr' | hr'
          · have := h3 r hr' hb'; omega
          · obtain rfl := List.mem_singleton.1 hr'; omega
        · rcases Int.lt_or_le (deepR bits (t.take n)) ((lastN t[n].p : Int) + 1) with hc | hc
          · exact .inr ⟨t[n], List.mem_append.2 (.inr (List.mem_singleton.2 rfl)), hb, by omega⟩
          · rw [Int.max_eq_left hc]
            rcases h4 with h4 | ⟨r, h5, h6, h7⟩
            · exact .inl h4
            · exact .inr ⟨r, List.mem_append.2 (.inl h5), h6, h7⟩
      · rename_i hb
        refine ⟨h1, h2, fun r hr' hb' => ?_, ?_⟩
        · rcases List.mem_append.1 hr' with hr' | hr'
          · exact h3 r hr' hb'
          · obtain rfl := List.mem_singleton.1 hr'; exact absurd hb' hb
        · rcases h4 with h4 | ⟨r, h5, h6, h7⟩
          · exact .inl h4
          · exact .inr ⟨r, List.mem_append.2 (.inl h5), h6, h7⟩
    · rw [List.take_of_length_le (by omega)] at ih ⊢; exact ih
theorem allR_take {bits : Int} {t : List Rt} (n : Nat) (hm : ∀ r ∈ t, pmay r.p = true) : 1 ≤ allR bits (t.take n) ∧ allR bits (t.take n) ≤ 1 + 31 * n := by
  induction n with
  | zero => exact ⟨by simp [allR], by simp [allR]⟩
  | succ n ih =>
    rcases Nat.lt_or_ge n t.length with h | h
    · have hr : t[n]? = some t[n] := by simp [h]
      have hl := lastN_lt (hm t[n] (by simp))
      rw [take_snoc hr, allR_snoc]
      split <;> omega
    · rw [List.take_of_length_le (by omega)] at ih ⊢; omega
theorem foldl_max_le {M : Int} : ∀ {l : List Int} {a : Int}, a ≤ M → (∀ x ∈ l, x ≤ M) → l.foldl max a ≤ M
  | [], _, h, _ => h
  | x :: l, a, h, hl => foldl_max_le (l := l) (by have := hl x (by simp); omega) fun y hy => hl y (by simp [hy])
theorem le_foldl_max : ∀ {l : List Int} {a : Int}, a ≤ l.foldl max a ∧ ∀ x ∈ l, x ≤ l.foldl max a
  | [], a => ⟨Int.le_refl _, fun x hx => by cases hx⟩
  | y :: l, a => by
    obtain ⟨h1, h2⟩ := le_foldl_max (l := l) (a := max a y)
    refine ⟨by rw [List.foldl_cons]; omega, fun x hx => ?_⟩
    rw [List.foldl_cons]
    rcases List.mem_cons.1 hx with rfl | hx
    · omega
    · exact h2 x hx
section
variable {bits : Int} {t : List Rt}
theorem way_in (hm : ∀ r ∈ t, pmay r.p = true) {r : Rt} (hr : r ∈ t) (hb : r.p.bits = bits) {s : Nat} (hs : s ≤ lastN r.p) : wayAt r.p.key s ∈ waysF bits t := by
  rcases Nat.eq_zero_or_pos s with e | e
  · subst e; rw [wayAt_zero]; exact List.mem_of_getElem? (ways_ok hm).root
  · have := holds_ways (bits := bits) t.length t
    rw [List.take_length] at this
    exact this r hr hb s e hs
theorem deep_eq (hb : bits = 32 ∨ bits = 128) (hm : ∀ r ∈ t, pmay r.p = true) (hl : (waysF bits t).length ≤ 512) : deepV bits (nodes bits (waysF bits t) t) = deepR bits t := by
  have hW := ways_bits hb hm
  obtain ⟨h1, h2, h3, h4⟩ := deepR_take (bits := bits) t.length hm
  rw [List.take_length] at h1 h2 h3 h4
  rw [deepV, steps_eq hb hW hm hl, Option.getD_some]
  apply Int.le_antisymm
  · refine foldl_max_le (by omega) fun x hx => ?_
    obtain ⟨v, hv, rfl⟩ := List.mem_map.1 hx
    rcases ways_mem hv with rfl | ⟨r, hr, hbr, s, h5, h6, rfl⟩
    · simp only [root]; omega
    · have := h3 r hr hbr
      simp only [wayAt]; omega
  · rcases h4 with h4 | ⟨r, hr, hbr, h5⟩
    · rw [h4]; exact le_foldl_max.2 1 (List.mem_map.2 ⟨root, List.mem_of_getElem? hW.w.root, rfl⟩)
    · rw [h5]; exact le_foldl_max.2 _ (List.mem_map.2 ⟨_, way_in hm hr hbr (Nat.le_refl _), rfl⟩)
theorem addTo_length {W : List Wy} {p : Pfx} : ∀ n, (addTo W p n).length ≤ W.length + n
  | 0 => Nat.le_refl _
  | n + 1 => by
    have := addTo_length (W := W) (p := p) n
    rw [addTo_succ]; unfold addW; split
    · omega
    · simp only [List.length_append, List.length_cons, List.length_nil]; omega
theorem ways_few (n : Nat) : ((waysF bits (t.take n)).length : Int) ≤ allR bits (t.take n) := by
  induction n with
  | zero => simp [waysF, allR]
  | succ n ih =>
    rcases Nat.lt_or_ge n t.length with h | h
    · have hr : t[n]? = some t[n] := by simp [h]
      rw [take_snoc hr, ways_snoc, allR_snoc]; unfold addWs
      split
      · have := addTo_length (W := waysF bits (t.take n)) (p := t[n].p) (lastN t[n].p); omega
      · exact ih
    · rw [List.take_of_length_le (by omega)] at ih ⊢; exact ih
theorem steps_le (hW : WOk (waysF bits t)) : ∀ (n i : Nat) (v : Wy), v.steps = n → (waysF bits t)[i]? = some v → n ≤ i := by
  intro n
  induction n with
  | zero => intro i v _ _; exact Nat.zero_le _
  | succ n ih =>
    intro i v hs hi
    obtain ⟨j, hj, e⟩ := par_lt hW hi (by omega)
    have := ih j (par v) (by simp only [par, wayAt]; omega) e
    omega
theorem ways_many (hm : ∀ r ∈ t, pmay r.p = true) : deepR bits t ≤ ((waysF bits t).length : Int) := by
  have hW := ways_ok (bits := bits) hm
  obtain ⟨_, _, _, h4⟩ := deepR_take (bits := bits) t.length hm
  rw [List.take_length] at h4
  rcases h4 with h4 | ⟨r, hr, hbr, h5⟩
  · have := hW.ne; omega
  · have hin := way_in hm hr hbr (Nat.le_refl _)
    have h1 := idx_lt hin
    have h2 := steps_le hW _ _ _ rfl (idx_get hin)
    simp only [wayAt] at h2
    have h3 : ((wayAt r.p.key (lastN r.p)).steps) = lastN r.p := rfl
    simp only [wayAt] at h1
    omega

/-! Walks in a table's trie. -/
theorem walkOk_eq (hb : bits = 32 ∨ bits = 128) (hm : ∀ r ∈ t, pmay r.p = true) (hl : (waysF bits t).length ≤ 512) (k : Key) : walkOk bits (nodes bits (waysF bits t) t) k = decide (kcut k bits = k) := by
  rw [walkOk, steps_eq hb (ways_bits hb hm) hm hl]; rfl
def deepT (bits : Int) (t : List Rt) (k : Key) : Nat := deepK (waysF bits t) k (bits / 4).toNat
theorem walkV_eq (hb : bits = 32 ∨ bits = 128) (hm : ∀ r ∈ t, pmay r.p = true) (hl : (waysF bits t).length ≤ 512) {k : Key} (hk : kcut k bits = k) :
    walkV bits (nodes bits (waysF bits t) t) k = (List.range (deepT bits t k + 1)).map fun j => (((waysF bits t).idxOf (wayAt k j) : Nat) : Int) := by
  have hW := ways_bits hb hm
  obtain ⟨h1, h2⟩ := wayLen_eq (R := t) hW hb (k := k)
  rw [walkV, if_pos (by rw [walkOk_eq hb hm hl, decide_eq_true hk]), h1, wayL]
  refine List.map_congr_left fun j hj => ?_
  have hj' : j ≤ deepT bits t k := by have := List.mem_range.1 hj; unfold deepT; omega
  rw [chain_at hW.w (by unfold deepT at hj'; omega) fun i hi => deepK_in hW.w (n := (bits / 4).toNat) (by unfold deepT at hj'; omega)]
theorem deepT_lt (hb : bits = 32 ∨ bits = 128) (hm : ∀ r ∈ t, pmay r.p = true) (k : Key) : deepT bits t k < (bits / 4).toNat := (wayLen_eq (R := t) (ways_bits hb hm) hb).2
theorem deepT_iff (hb : bits = 32 ∨ bits = 128) (hm : ∀ r ∈ t, pmay r.p = true) (k : Key) {j : Nat} : wayAt k j ∈ waysF bits t ↔ j ≤ deepT bits t k :=
  deepK_iff (ways_bits hb hm).w fun v hv => by have := (ways_bits hb hm).room v hv; omega
theorem way_common {k l : Key} {i : Nat} (h : (i : Int) ≤ kcommon k l / 4) : wayAt k i = wayAt l i := by
  have h0 := kcommon_spec k l
  obtain ⟨m, hm, h128, _⟩ := h0
  rw [wayAt, wayAt, (kcommon_ge (a := k) (b := l) (n := ((4 * i : Nat) : Int)) (by omega)).1 (by omega)]
theorem may_cut {p : Pfx} (h : pmay p = true) {bits : Int} (hb : p.bits = bits) : kcut p.key bits = p.key := by
  obtain ⟨_, _, h3, h4⟩ := (pmay_iff p).1 h
  rw [← h4, kcut_cut]; congr 1; omega
theorem deepR_room (hb : bits = 32 ∨ bits = 128) (hm : ∀ r ∈ t, pmay r.p = true) : deepR bits t ≤ bits / 4 := by
  obtain ⟨_, _, _, h4⟩ := deepR_take (bits := bits) t.length hm
  rw [List.take_length] at h4
  rcases h4 with h4 | ⟨r, hr, hbr, h5⟩
  · omega
  · have := room_of (hm r hr) (Nat.le_refl _)
    rw [hbr] at this; omega
theorem map_range_get {α : Type} {f : Nat → α} {n i : Nat} (h : i < n) : ((List.range n).map f)[i]? = some (f i) := by simp [h]
def Mk (bits : Int) (W : List Wy) (R : List Rt) (on : List Bool) : Prop := on[0]? = some true ∧ ∀ r ∈ R, r.p.bits = bits → ∀ s, wayAt r.p.key s ∈ W → on[W.idxOf (wayAt r.p.key s)]? = some true
theorem set_true {on : List Bool} {i j : Nat} (h : on[j]? = some true) : (on.set i true)[j]? = some true := by
  rw [List.getElem?_set]
  split
  · rename_i e; subst e; rw [if_pos (List.getElem?_eq_some_iff.1 h).1]
  · exact h
theorem Mk.start {bits : Int} {W : List Wy} {t : List Rt} {n : Nat} (hn : 0 < n) : Mk bits W (t.take 0) ((List.replicate n false).set 0 true) := ⟨by simp [hn], fun r hr => by simp at hr⟩
theorem Mk.set {bits : Int} {W : List Wy} {R : List Rt} {on : List Bool} {i : Nat} (h : Mk bits W R on) : Mk bits W R (on.set i true) := ⟨set_true h.1, fun r hr hb s hs => set_true (h.2 r hr hb s hs)⟩
theorem Mk.snoc {bits : Int} {W : List Wy} {R : List Rt} {r : Rt} {on : List Bool} (h : Mk bits W R on) (h2 : r.p.bits = bits → ∀ s, wayAt r.p.key s ∈ W → on[W.idxOf (wayAt r.p.key s)]? = some true) : Mk bits W (R ++ [r]) on := ⟨h.1, fun q hq hb s hs => by
  rcases List.mem_append.1 hq with hq | hq
  · exact h.2 q hq hb s hs
  · obtain rfl := List.mem_singleton.1 hq; exact h2 hb s hs⟩
theorem mark_all (hm : ∀ r ∈ t, pmay r.p = true) {on : List Bool} (h : Mk bits (waysF bits t) t on) {n : Nat} (hn : n < (waysF bits t).length) : on[n]? = some true := by
  have hW := ways_ok (bits := bits) hm
  obtain ⟨v, hv⟩ : ∃ v, (waysF bits t)[n]? = some v := ⟨(waysF bits t)[n], by simp [hn]⟩
  rcases ways_mem (List.mem_of_getElem? hv) with rfl | ⟨r, hr, hbr, s, h5, h6, rfl⟩
  · rw [get_inj hW.nodup hv hW.root]; exact h.1
  · have := h.2 r hr hbr s (List.mem_of_getElem? hv)
    rwa [get_idx hW.nodup hv] at this
end
end Go.Kb

/- The best route of a table, by halving, and by its trie. No program in sight. -/
namespace Go.Kb

/-! Search by halving. -/
def bsl (p : Nat → Bool) : Nat → Nat → Nat → Nat
  | 0, i, _ => i
  | f + 1, i, j => if i < j then (if p ((i + j) / 2) = true then bsl p f i ((i + j) / 2) else bsl p f ((i + j) / 2 + 1) j) else i
def bs (p : Nat → Bool) (n : Nat) : Nat := bsl p (n + 1) 0 n
theorem bsl_more (p : Nat → Bool) : ∀ (f g i j : Nat), j - i < f → j - i < g → bsl p f i j = bsl p g i j
  | 0, _, _, _, h, _ => by omega
  | _ + 1, 0, _, _, _, h => by omega
  | f + 1, g + 1, i, j, h1, h2 => by
    rw [bsl, bsl]
    split
    · split
      · exact bsl_more p f g _ _ (by omega) (by omega)
      · exact bsl_more p f g _ _ (by omega) (by omega)
    · rfl
theorem bsl_step {p : Nat → Bool} {f i j : Nat} (h : i < j) (hf : j - i < f) : bsl p f i j = if p ((i + j) / 2) = true then bsl p f i ((i + j) / 2) else bsl p f ((i + j) / 2 + 1) j := by
  match f, hf with
  | f + 1, hf =>
    rw [bsl, if_pos h]
    split
    · exact bsl_more p f (f + 1) _ _ (by omega) (by omega)
    · exact bsl_more p f (f + 1) _ _ (by omega) (by omega)
theorem bsl_stop {p : Nat → Bool} {f i j : Nat} (h : ¬ i < j) (hf : 0 < f) : bsl p f i j = i := by
  match f, hf with
  | f + 1, _ => rw [bsl, if_neg h]
theorem bsl_spec {p : Nat → Bool} {n : Nat} (hm : ∀ a b, a ≤ b → b < n → p a = true → p b = true) : ∀ (f i j : Nat), j - i < f → i ≤ j → j ≤ n → (∀ a, a < i → p a = false) → (∀ a, j ≤ a → a < n → p a = true) →
    bsl p f i j ≤ n ∧ (∀ a, a < bsl p f i j → p a = false) ∧ ∀ a, bsl p f i j ≤ a → a < n → p a = true
  | 0, _, _, h, _, _, _, _ => by omega
  | f + 1, i, j, h, hij, hjn, h1, h2 => by
    rw [bsl]
    split
    · rename_i hlt
      split
      · rename_i hp
        exact bsl_spec hm f _ _ (by omega) (by omega) (by omega) h1 fun a ha han => hm _ a ha han hp
      · rename_i hp
        refine bsl_spec hm f _ _ (by omega) (by omega) hjn (fun a ha => ?_) h2
        cases hpa : p a with
        | false => rfl
        | true => exact absurd (hm a ((i + j) / 2) (by omega) (by omega) hpa) hp
    · obtain rfl : i = j := by omega
      exact ⟨hjn, h1, h2⟩
theorem bs_spec {p : Nat → Bool} {n : Nat} (hm : ∀ a b, a ≤ b → b < n → p a = true → p b = true) : bs p n ≤ n ∧ (∀ a, a < bs p n → p a = false) ∧ ∀ a, bs p n ≤ a → a < n → p a = true :=
  bsl_spec hm (n + 1) 0 n (by omega) (Nat.zero_le _) (Nat.le_refl _) (fun a ha => by omega) (fun a h1 h2 => by omega)

/-! A prefix's place in a table. -/
def behind (t : List Rt) (q : Pfx) (j : Nat) : Bool := match t[j]? with
  | some r => !pless r.p q
  | none => true
def placeN (t : List Rt) (q : Pfx) : Nat := bs (behind t q) t.length
def placeB (t : List Rt) (q : Pfx) : Bool := match t[placeN t q]? with
  | some r => decide (r.p = q)
  | none => false
theorem bsl_le {p : Nat → Bool} : ∀ (f i j : Nat), i ≤ j → bsl p f i j ≤ j
  | 0, _, _, h => h
  | f + 1, i, j, h => by
    rw [bsl]; split
    · split
      · exact Nat.le_trans (bsl_le f _ _ (by omega)) (by omega)
      · exact bsl_le f _ _ (by omega)
    · exact h
theorem placeN_le (t : List Rt) (q : Pfx) : placeN t q ≤ t.length := bsl_le _ _ _ (Nat.zero_le _)

theorem placeB_eq (t : List Rt) (q : Pfx) : placeB t q = (decide (((placeN t q : Nat) : Int) < (t.length : Int)) && decide ((t.getD (placeN t q) zroute).p = q)) := by
  rcases Nat.lt_or_ge (placeN t q) t.length with h | h
  · have e : t[placeN t q]? = some t[placeN t q] := by simp [h]
    rw [placeB, e, List.getD_eq_getElem?_getD, e]; simp [h]
  · rw [placeB, List.getElem?_eq_none h, decide_eq_false (by omega)]; rfl
def bestAt (t : List Rt) (k : Key) (bits : Int) (n : Nat) : Option Rt := if placeB t ⟨bits, n, kcut k n⟩ = true then t[placeN t ⟨bits, n, kcut k n⟩]? else none
def bestF (t : List Rt) (k : Key) (bits : Int) : Nat → Option Rt
  | 0 => bestAt t k bits 0
  | n + 1 => match bestAt t k bits (n + 1) with
    | some r => some r
    | none => bestF t k bits n
def bestO (t : List Rt) (k : Key) (bits : Int) : Bool := tright t && pmay ⟨bits, bits, k⟩
def bestR (t : List Rt) (k : Key) (bits : Int) : Rt := if bestO t k bits = true then (bestF t k bits bits.toNat).getD zroute else zroute
def bestE (t : List Rt) (k : Key) (bits : Int) : Int := if bestO t k bits = true then (if (bestF t k bits bits.toNat).isSome = true then 0 else 6) else 1

/-! In a right table. -/
theorem right_less {t : List Rt} (h : tright t = true) : ∀ (i j : Nat) (a b : Rt), i < j → t[i]? = some a → t[j]? = some b → pless a.p b.p = true := by
  intro i j
  induction j with
  | zero => intro a b hij; omega
  | succ j ih =>
    intro a b hij ha hb
    have hjl := (List.getElem?_eq_some_iff.1 hb).1
    obtain ⟨c, hc⟩ : ∃ c, t[j]? = some c := ⟨t[j], by simp [show j < t.length by omega]⟩
    have hcb : pless c.p b.p = true := by
      cases hx : pless c.p b.p with
      | true => rfl
      | false =>
        have := tright_no hjl (by rw [okAt_succ hb hc, hx]; simp)
        rw [this] at h; cases h
    rcases Nat.lt_or_ge i j with h1 | h1
    · have hac := ih a c h1 ha hc
      have m1 := tr_may h (List.mem_of_getElem? ha)
      have m2 := tr_may h (List.mem_of_getElem? hb)
      have m3 := tr_may h (List.mem_of_getElem? hc)
      rw [pless_iff m1 m3] at hac
      rw [pless_iff m3 m2] at hcb
      rw [pless_iff m1 m2]
      omega
    · obtain rfl : i = j := by omega
      obtain rfl := Option.some.inj (ha.symm.trans hc)
      exact hcb
theorem less_irr {p : Pfx} (h : pmay p = true) : pless p p = false := by
  cases hx : pless p p with
  | false => rfl
  | true => rw [pless_iff h h] at hx; omega
theorem right_uniq {t : List Rt} (h : tright t = true) {a b : Rt} (ha : a ∈ t) (hb : b ∈ t) (e : a.p = b.p) : a = b := by
  obtain ⟨i, hi⟩ := List.mem_iff_getElem?.1 ha
  obtain ⟨j, hj⟩ := List.mem_iff_getElem?.1 hb
  rcases Nat.lt_trichotomy i j with h1 | h1 | h1
  · have := right_less h i j a b h1 hi hj
    rw [e, less_irr (tr_may h hb)] at this; cases this
  · subst h1; exact Option.some.inj (hi.symm.trans hj)
  · have := right_less h j i b a h1 hj hi
    rw [e, less_irr (tr_may h hb)] at this; cases this
theorem behind_mono {t : List Rt} (h : tright t = true) {q : Pfx} (hq : pmay q = true) (a b : Nat) (hab : a ≤ b) (hb : b < t.length) (ha : behind t q a = true) : behind t q b = true := by
  obtain ⟨x, hx⟩ : ∃ x, t[a]? = some x := ⟨t[a], by simp [show a < t.length by omega]⟩
  obtain ⟨y, hy⟩ : ∃ y, t[b]? = some y := ⟨t[b], by simp [hb]⟩
  simp only [behind, hx, hy, Bool.not_eq_true'] at ha ⊢
  rcases Nat.lt_or_ge a b with h1 | h1
  · have hl := right_less h a b x y h1 hx hy
    have m1 := tr_may h (List.mem_of_getElem? hx)
    have m2 := tr_may h (List.mem_of_getElem? hy)
    cases hz : pless y.p q with
    | false => rfl
    | true =>
      rw [pless_iff m1 m2] at hl
      rw [pless_iff m2 hq] at hz
      have : pless x.p q = true := by rw [pless_iff m1 hq]; omega
      rw [this] at ha; cases ha
  · obtain rfl : a = b := by omega
    obtain rfl := Option.some.inj (hx.symm.trans hy)
    exact ha
theorem place_some {t : List Rt} (h : tright t = true) {q : Pfx} (hq : pmay q = true) {r : Rt} (hr : r ∈ t) (e : r.p = q) : t[placeN t q]? = some r ∧ placeB t q = true := by
  obtain ⟨h1, h2, h3⟩ := bs_spec (p := behind t q) (n := t.length) fun a b => behind_mono h hq a b
  obtain ⟨i, hi⟩ := List.mem_iff_getElem?.1 hr
  have hil := (List.getElem?_eq_some_iff.1 hi).1
  have e1 : placeN t q = i := by
    have hbi : behind t q i = true := by simp only [behind, hi, e, less_irr hq]; rfl
    rcases Nat.lt_trichotomy (placeN t q) i with h4 | h4 | h4
    · obtain ⟨x, hx⟩ : ∃ x, t[placeN t q]? = some x := ⟨t[placeN t q], by simp [show placeN t q < t.length by omega]⟩
      have h5 := h3 (placeN t q) (Nat.le_refl _) (by omega)
      have h6 := right_less h _ _ x r h4 hx hi
      simp only [behind, hx] at h5
      rw [e] at h6; rw [h6] at h5; cases h5
    · exact h4
    · have := h2 i h4; rw [this] at hbi; cases hbi
  rw [placeB, e1, hi]
  exact ⟨rfl, by simp [e]⟩
theorem place_in {t : List Rt} {q : Pfx} (h : placeB t q = true) : ∃ r ∈ t, t[placeN t q]? = some r ∧ r.p = q := by
  rw [placeB] at h
  cases e : t[placeN t q]? with
  | none => rw [e] at h; cases h
  | some r => rw [e] at h; exact ⟨r, List.mem_of_getElem? e, rfl, by simpa using h⟩

section
variable {t : List Rt} {k : Key} {bits : Int}
theorem cut_may (hb : bits = 32 ∨ bits = 128) {n : Nat} (hn : (n : Int) ≤ bits) : pmay ⟨bits, n, kcut k n⟩ = true :=
  (pmay_iff _).2 ⟨hb, by simp, hn, by simp only; rw [kcut_cut]; congr 1; omega⟩
theorem bestAt_some (h : tright t = true) (hb : bits = 32 ∨ bits = 128) {n : Nat} (hn : (n : Int) ≤ bits) {r : Rt} : bestAt t k bits n = some r ↔ r ∈ t ∧ r.p = ⟨bits, n, kcut k n⟩ := by
  constructor
  · intro e
    unfold bestAt at e
    split at e
    · rename_i hp
      obtain ⟨r', h1, h2, h3⟩ := place_in hp
      rw [h2] at e
      obtain rfl := Option.some.inj e
      exact ⟨h1, h3⟩
    · cases e
  · rintro ⟨h1, h2⟩
    obtain ⟨h3, h4⟩ := place_some h (cut_may hb hn) h1 h2
    rw [bestAt, if_pos h4, h3]
theorem bestF_some (h : tright t = true) (hb : bits = 32 ∨ bits = 128) : ∀ {n : Nat} {r : Rt}, (n : Int) ≤ bits → bestF t k bits n = some r → r ∈ t ∧ (∃ m : Nat, m ≤ n ∧ r.p = ⟨bits, m, kcut k m⟩) ∧ ∀ q ∈ t, ∀ m : Nat, m ≤ n → q.p = ⟨bits, m, kcut k m⟩ → q.p.len ≤ r.p.len
  | 0, r, hn, e => by
    obtain ⟨h1, h2⟩ := (bestAt_some h hb hn).1 e
    exact ⟨h1, ⟨0, Nat.le_refl _, h2⟩, fun q _ m hm hq => by rw [hq, h2]; simp; omega⟩
  | n + 1, r, hn, e => by
    rw [bestF] at e
    cases hx : bestAt t k bits (n + 1) with
    | some r' =>
      rw [hx] at e
      obtain rfl := Option.some.inj e
      obtain ⟨h1, h2⟩ := (bestAt_some h hb hn).1 hx
      exact ⟨h1, ⟨n + 1, Nat.le_refl _, h2⟩, fun q _ m hm hq => by rw [hq, h2]; simp; omega⟩
    | none =>
      rw [hx] at e
      obtain ⟨h1, ⟨m, hm, h2⟩, h3⟩ := bestF_some h hb (by omega) e
      refine ⟨h1, ⟨m, by omega, h2⟩, fun q hq m' hm' e' => ?_⟩
      rcases Nat.lt_or_ge n m' with h4 | h4
      · obtain rfl : m' = n + 1 := by omega
        rw [(bestAt_some h hb hn).2 ⟨hq, e'⟩] at hx; cases hx
      · exact h3 q hq m' h4 e'
theorem bestF_none (h : tright t = true) (hb : bits = 32 ∨ bits = 128) : ∀ {n : Nat}, (n : Int) ≤ bits → bestF t k bits n = none → ∀ q ∈ t, ∀ m : Nat, m ≤ n → q.p ≠ ⟨bits, m, kcut k m⟩
  | 0, hn, e => fun q hq m hm e' => by
    obtain rfl : m = 0 := by omega
    rw [bestF, (bestAt_some h hb hn).2 ⟨hq, e'⟩] at e; cases e
  | n + 1, hn, e => fun q hq m hm e' => by
    rw [bestF] at e
    cases hx : bestAt t k bits (n + 1) with
    | some r' => rw [hx] at e; cases e
    | none =>
      rw [hx] at e
      rcases Nat.lt_or_ge n m with h4 | h4
      · obtain rfl : m = n + 1 := by omega
        rw [(bestAt_some h hb hn).2 ⟨hq, e'⟩] at hx; cases hx
      · exact bestF_none h hb (by omega) e q hq m h4 e'
theorem fit_cut {r : Rt} (hbits : r.p.bits = bits) (hf : pfits r.p k = true) : ∃ m : Nat, (m : Int) ≤ bits ∧ r.p = ⟨bits, m, kcut k m⟩ := by
  obtain ⟨h1, _, h3⟩ := (pfits_iff _ _).1 hf
  obtain ⟨_, h4, h5, _⟩ := (pmay_iff _).1 h1
  refine ⟨r.p.len.toNat, by omega, ?_⟩
  obtain ⟨⟨b, l, q⟩, hop⟩ := r
  simp only at *
  have : ((l.toNat : Nat) : Int) = l := by omega
  rw [this, h3, hbits]
theorem cut_fit (hb : bits = 32 ∨ bits = 128) (hk : kcut k bits = k) {r : Rt} {m : Nat} (hm : (m : Int) ≤ bits) (e : r.p = ⟨bits, m, kcut k m⟩) : r.p.bits = bits ∧ pfits r.p k = true := by
  refine ⟨by rw [e], (pfits_iff _ _).2 ⟨by rw [e]; exact cut_may hb hm, by rw [e]; exact hk, by rw [e]⟩⟩

/-! What a trie finds. -/
theorem hit_fit {r : Rt} (hm : pmay r.p = true) (hb : bits = 32 ∨ bits = 128) {s : Nat} (hs : 4 * ((s : Int) + 1) ≤ bits) : hit r bits (wayAt k s) (kst k s) = true ↔ r.p.bits = bits ∧ lastN r.p = s ∧ kcut k r.p.len = r.p.key := by
  have hk2 : rset (wayAt k s).key (wayAt k s).steps (kst k s) = kcut k ((4 * (s + 1) : Nat) : Int) := congrArg Wy.key (child_wayAt k s (by omega))
  obtain ⟨h1, h2, h3, h4⟩ := (pmay_iff _).1 hm
  simp only [hit, Bool.and_eq_true, decide_eq_true_eq]
  rw [hk2, pfits_iff]
  constructor
  · rintro ⟨⟨h5, h6⟩, h7, h8, h9⟩
    have h6' : lastN r.p = s := h6
    refine ⟨h5, h6', ?_⟩
    rw [kcut_cut] at h9
    have : min ((4 * (s + 1) : Nat) : Int) r.p.len = r.p.len := by unfold lastN at h6'; omega
    rwa [this] at h9
  · rintro ⟨h5, h6, h7⟩
    refine ⟨⟨h5, h6⟩, hm, ?_, ?_⟩
    · rw [kcut_cut]; congr 1; omega
    · rw [kcut_cut]
      have : min ((4 * (s + 1) : Nat) : Int) r.p.len = r.p.len := by unfold lastN at h6; omega
      rw [this, h7]
theorem slot_best {w : Wy} {b : Nat} : ∀ (R : List Rt) (s : Slt) (S : Rt → Prop), (∀ r ∈ R, pmay r.p = true) →
    ((s = Slt.no ∧ ∀ r, ¬ S r) ∨ ∃ r, S r ∧ s = ⟨r.p.len + 1, r.hop⟩ ∧ ∀ q, S q → q.p.len ≤ r.p.len) →
    (R.foldl (slotUp bits w b) s = Slt.no ∧ ∀ r, ¬ (S r ∨ r ∈ R ∧ hit r bits w b = true)) ∨ ∃ r, (S r ∨ r ∈ R ∧ hit r bits w b = true) ∧ R.foldl (slotUp bits w b) s = ⟨r.p.len + 1, r.hop⟩ ∧ ∀ q, (S q ∨ q ∈ R ∧ hit q bits w b = true) → q.p.len ≤ r.p.len
  | [], s, S, _, h => by
    rcases h with ⟨h1, h2⟩ | ⟨r, h1, h2, h3⟩
    · exact .inl ⟨h1, fun r hr => by rcases hr with hr | ⟨hr, _⟩; exact h2 r hr; cases hr⟩
    · exact .inr ⟨r, .inl h1, h2, fun q hq => by rcases hq with hq | ⟨hq, _⟩; exact h3 q hq; cases hq⟩
  | a :: R, s, S, hm, h => by
    have hl := ((pmay_iff a.p).1 (hm a (by simp))).2.1
    have ih := slot_best (w := w) (b := b) R (slotUp bits w b s a) (fun r => S r ∨ r = a ∧ hit a bits w b = true) (fun r hr => hm r (by simp [hr])) (by
      unfold slotUp
      by_cases hh : hit a bits w b = true
      · rcases h with ⟨h1, h2⟩ | ⟨r, h1, h2, h3⟩
        · refine .inr ⟨a, .inr ⟨rfl, hh⟩, ?_, fun q hq => ?_⟩
          · rw [if_pos ⟨hh, by rw [h1]; exact hl⟩]
          · rcases hq with hq | ⟨hq, _⟩
            · exact absurd hq (h2 q)
            · rw [hq]; exact Int.le_refl _
        · by_cases hc : r.p.len + 1 ≤ a.p.len
          · refine .inr ⟨a, .inr ⟨rfl, hh⟩, ?_, fun q hq => ?_⟩
            · rw [if_pos ⟨hh, by rw [h2]; exact hc⟩]
            · rcases hq with hq | ⟨hq, _⟩
              · have := h3 q hq; omega
              · rw [hq]; exact Int.le_refl _
          · refine .inr ⟨r, .inl h1, ?_, fun q hq => ?_⟩
            · rw [if_neg (by rw [h2]; exact fun h9 => hc h9.2)]; exact h2
            · rcases hq with hq | ⟨hq, _⟩
              · exact h3 q hq
              · rw [hq]; omega
      · rcases h with ⟨h1, h2⟩ | ⟨r, h1, h2, h3⟩
        · refine .inl ⟨by rw [if_neg (fun h9 => hh h9.1)]; exact h1, fun r hr => ?_⟩
          rcases hr with hr | ⟨_, hr⟩
          · exact h2 r hr
          · exact hh hr
        · refine .inr ⟨r, .inl h1, by rw [if_neg (fun h9 => hh h9.1)]; exact h2, fun q hq => ?_⟩
          rcases hq with hq | ⟨_, hq⟩
          · exact h3 q hq
          · exact absurd hq hh)
    have eqv : ∀ r, ((S r ∨ r = a ∧ hit a bits w b = true) ∨ r ∈ R ∧ hit r bits w b = true) ↔ (S r ∨ r ∈ a :: R ∧ hit r bits w b = true) := fun r => by
      constructor
      · rintro ((h1 | ⟨rfl, h2⟩) | ⟨h1, h2⟩)
        · exact .inl h1
        · exact .inr ⟨by simp, h2⟩
        · exact .inr ⟨by simp [h1], h2⟩
      · rintro (h1 | ⟨h1, h2⟩)
        · exact .inl (.inl h1)
        · rcases List.mem_cons.1 h1 with rfl | h1
          · exact .inl (.inr ⟨rfl, h2⟩)
          · exact .inr ⟨h1, h2⟩
    rw [List.foldl_cons]
    rcases ih with ⟨h1, h2⟩ | ⟨r, h1, h2, h3⟩
    · exact .inl ⟨h1, fun r hr => h2 r ((eqv r).2 hr)⟩
    · exact .inr ⟨r, (eqv r).1 h1, h2, fun q hq => h3 q ((eqv q).2 hq)⟩
def Fit (t : List Rt) (k : Key) (bits : Int) (n : Nat) (r : Rt) : Prop := r ∈ t ∧ r.p.bits = bits ∧ kcut k r.p.len = r.p.key ∧ lastN r.p < n
theorem best_steps (h : tright t = true) (hb : bits = 32 ∨ bits = 128) (hl : (waysF bits t).length ≤ 512) : ∀ n, n ≤ deepT bits t k + 1 →
    (bestOf (nodes bits (waysF bits t) t) k n = Slt.no ∧ ∀ r, ¬ Fit t k bits n r) ∨ ∃ r, Fit t k bits n r ∧ bestOf (nodes bits (waysF bits t) t) k n = ⟨r.p.len + 1, r.hop⟩ ∧ ∀ q, Fit t k bits n q → q.p.len ≤ r.p.len
  | 0, _ => .inl ⟨rfl, fun r hr => absurd hr.2.2.2 (Nat.not_lt_zero _)⟩
  | n + 1, hn => by
    have hm : ∀ r ∈ t, pmay r.p = true := fun r hr => tr_may h hr
    have hW := ways_bits hb hm
    have hd := deepT_lt hb hm k
    have hin : ∀ j, j ≤ n → wayAt k j ∈ waysF bits t := fun j hj => (deepT_iff hb hm k).2 (by omega)
    have hc := chain_at (bits := bits) (R := t) hW.w (k := k) (n := n) (by omega) hin
    have hget := idx_get (hin n (Nat.le_refl _))
    have hroom := hW.room _ (hin n (Nat.le_refl _))
    have hroom' : 4 * ((n : Int) + 1) ≤ bits := hroom
    have hs := slot_best (bits := bits) (w := wayAt k n) (b := kst k n) t Slt.no (fun _ => False) hm (.inl ⟨rfl, fun _ h => h⟩)
    have hsl : ((nodes bits (waysF bits t) t).getD (chain (nodes bits (waysF bits t) t) k n) Nd.zero).sl (kst k n) = t.foldl (slotUp bits (wayAt k n) (kst k n)) Slt.no := by
      rw [hc, nodes_getD hget, nodeF, Nd.sl_mk' (kst_lt k n)]; rfl
    have hf : ∀ r, (False ∨ r ∈ t ∧ hit r bits (wayAt k n) (kst k n) = true) ↔ Fit t k bits (n + 1) r ∧ lastN r.p = n := fun r => by
      constructor
      · rintro (h1 | ⟨h1, h2⟩)
        · exact h1.elim
        · obtain ⟨h3, h4, h5⟩ := (hit_fit (hm r h1) hb hroom').1 h2
          exact ⟨⟨h1, h3, h5, by omega⟩, h4⟩
      · rintro ⟨⟨h1, h3, h5, _⟩, h4⟩
        exact .inr ⟨h1, (hit_fit (hm r h1) hb hroom').2 ⟨h3, h4, h5⟩⟩
    have hup : ∀ r, Fit t k bits n r → Fit t k bits (n + 1) r := fun r hr => ⟨hr.1, hr.2.1, hr.2.2.1, by have := hr.2.2.2; omega⟩
    have hdn : ∀ r, Fit t k bits (n + 1) r → Fit t k bits n r ∨ lastN r.p = n := fun r hr => by
      rcases Nat.lt_or_ge (lastN r.p) n with h9 | h9
      · exact .inl ⟨hr.1, hr.2.1, hr.2.2.1, h9⟩
      · have := hr.2.2.2; exact .inr (by omega)
    have hlen : ∀ r, Fit t k bits n r → ∀ q, lastN q.p = n → q ∈ t → r.p.len < q.p.len := fun r hr q hq hqt => by
      have h9 := hr.2.2.2
      have hq0 := ((pmay_iff q.p).1 (hm q hqt)).2.1
      unfold lastN at h9 hq; omega
    simp only [bestOf]
    rw [hsl]
    rcases best_steps h hb hl n (by omega) with ⟨h1, h2⟩ | ⟨r, h1, h2, h3⟩
    · rw [h1]
      rcases hs with ⟨h4, h5⟩ | ⟨q, h4, h5, h6⟩
      · rw [h4, if_neg (by decide)]
        refine .inl ⟨rfl, fun r hr => ?_⟩
        rcases hdn r hr with h9 | h9
        · exact h2 r h9
        · exact h5 r ((hf r).2 ⟨hr, h9⟩)
      · obtain ⟨h7, h8⟩ := (hf q).1 h4
        have hq0 := ((pmay_iff q.p).1 (hm q h7.1)).2.1
        rw [h5, if_pos (by show (0 : Int) < q.p.len + 1; omega)]
        refine .inr ⟨q, h7, rfl, fun r hr => ?_⟩
        rcases hdn r hr with h9 | h9
        · exact absurd h9 (h2 r)
        · exact h6 r ((hf r).2 ⟨hr, h9⟩)
    · rw [h2]
      rcases hs with ⟨h4, h5⟩ | ⟨q, h4, h5, h6⟩
      · have hr0 := ((pmay_iff r.p).1 (hm r h1.1)).2.1
        rw [h4, if_neg (by show ¬ r.p.len + 1 < 0; omega)]
        refine .inr ⟨r, hup r h1, rfl, fun q hq => ?_⟩
        rcases hdn q hq with h9 | h9
        · exact h3 q h9
        · exact absurd ((hf q).2 ⟨hq, h9⟩) (h5 q)
      · obtain ⟨h7, h8⟩ := (hf q).1 h4
        have hlt := hlen r h1 q h8 h7.1
        rw [h5, if_pos (by show r.p.len + 1 < q.p.len + 1; omega)]
        refine .inr ⟨q, h7, rfl, fun r' hr => ?_⟩
        rcases hdn r' hr with h9 | h9
        · have := h3 r' h9; omega
        · exact h6 r' ((hf r').2 ⟨hr, h9⟩)
theorem trie_best (h : tright t = true) (hb : bits = 32 ∨ bits = 128) (hl : (waysF bits t).length ≤ 512) :
    findE bits (nodes bits (waysF bits t) t) k = bestE t k bits ∧ findN bits (nodes bits (waysF bits t) t) k = (bestR t k bits).p.len ∧ findH bits (nodes bits (waysF bits t) t) k = (bestR t k bits).hop := by
  have hm : ∀ r ∈ t, pmay r.p = true := fun r hr => tr_may h hr
  have hok := walkOk_eq hb hm hl k
  have hbo : bestO t k bits = decide (kcut k bits = k) := by
    rw [bestO, h, Bool.true_and]
    have : pmay ⟨bits, bits, k⟩ = true ↔ kcut k bits = k := by
      rw [pmay_iff]; exact ⟨fun h9 => h9.2.2.2, fun h9 => ⟨hb, by simp only; omega, Int.le_refl _, h9⟩⟩
    cases hx : pmay ⟨bits, bits, k⟩ with
    | true => rw [decide_eq_true (this.1 hx)]
    | false => rw [decide_eq_false (fun h9 => by rw [this.2 h9] at hx; cases hx)]
  by_cases hk : kcut k bits = k
  · rw [decide_eq_true hk] at hok hbo
    have hwl : (walkV bits (nodes bits (waysF bits t) t) k).length = deepT bits t k + 1 := by rw [walkV_eq hb hm hl hk]; simp
    have hall : ∀ r ∈ t, r.p.bits = bits → kcut k r.p.len = r.p.key → Fit t k bits (deepT bits t k + 1) r := fun r hr hbr hf => by
      refine ⟨hr, hbr, hf, ?_⟩
      have h1 := way_in hm hr hbr (Nat.le_refl _)
      have h2 : wayAt r.p.key (lastN r.p) = wayAt k (lastN r.p) := by
        have h0 := ((pmay_iff r.p).1 (hm r hr)).2.1
        rw [wayAt, wayAt, ← hf, kcut_cut]; congr 2; unfold lastN; omega
      rw [h2] at h1
      have := (deepT_iff hb hm k).1 h1
      omega
    have hbn : ((bits.toNat : Nat) : Int) = bits := by omega
    rcases best_steps (k := k) h hb hl (deepT bits t k + 1) (Nat.le_refl _) with ⟨h1, h2⟩ | ⟨r, h1, h2, h3⟩
    · have hfs : findS bits (nodes bits (waysF bits t) t) k = Slt.no := by rw [findS, hwl, h1]
      have he : findE bits (nodes bits (waysF bits t) t) k = 6 := by rw [findE, if_pos hok, hfs]; rfl
      have hbf : bestF t k bits bits.toNat = none := by
        cases hx : bestF t k bits bits.toNat with
        | none => rfl
        | some r =>
          obtain ⟨h4, ⟨m, h5, h6⟩, _⟩ := bestF_some h hb (by omega) hx
          exact absurd (hall r h4 (by rw [h6]) (by rw [h6])) (h2 r)
      refine ⟨by rw [he, bestE, if_pos hbo, hbf]; rfl, by rw [findN, he, bestR, if_pos hbo, hbf]; rfl, by rw [findH, he, bestR, if_pos hbo, hbf]; rfl⟩
    · have hr0 := ((pmay_iff r.p).1 (hm r h1.1)).2.1
      have hfs : findS bits (nodes bits (waysF bits t) t) k = ⟨r.p.len + 1, r.hop⟩ := by rw [findS, hwl, h2]
      have he : findE bits (nodes bits (waysF bits t) t) k = 0 := by rw [findE, if_pos hok, hfs, if_neg (by show ¬ r.p.len + 1 = 0; omega)]
      have hrf : pfits r.p k = true := (pfits_iff _ _).2 ⟨hm r h1.1, by rw [h1.2.1]; exact hk, h1.2.2.1⟩
      obtain ⟨m, hm1, hm2⟩ := fit_cut h1.2.1 hrf
      have hbf : bestF t k bits bits.toNat = some r := by
        cases hx : bestF t k bits bits.toNat with
        | none => exact absurd hm2 (bestF_none h hb (by omega) hx r h1.1 m (by omega))
        | some q =>
          obtain ⟨h4, ⟨m', h5, h6⟩, h7⟩ := bestF_some h hb (by omega) hx
          have h8 := h7 r h1.1 m (by omega) hm2
          have h9 := h3 q (hall q h4 (by rw [h6]) (by rw [h6]))
          have h10 : m = m' := by rw [hm2, h6] at h8 h9; simp only at h8 h9; omega
          exact congrArg some (right_uniq h h4 h1.1 (by rw [h6, hm2, h10]))
      refine ⟨by rw [he, bestE, if_pos hbo, hbf]; rfl, ?_, ?_⟩
      · rw [findN, if_pos he, hfs, bestR, if_pos hbo, hbf]; show r.p.len + 1 - 1 = r.p.len; omega
      · rw [findH, if_pos he, hfs, bestR, if_pos hbo, hbf]; rfl
  · rw [decide_eq_false hk] at hok hbo
    have he : findE bits (nodes bits (waysF bits t) t) k = 1 := by rw [findE, if_neg (by rw [hok]; simp)]
    refine ⟨by rw [he, bestE, if_neg (by rw [hbo]; simp)], by rw [findN, if_neg (by rw [he]; decide), bestR, if_neg (by rw [hbo]; simp)]; rfl, by rw [findH, if_neg (by rw [he]; decide), bestR, if_neg (by rw [hbo]; simp)]; rfl⟩
end
end Go.Kb

/- A place in a table; the best route: walked. -/
namespace Go.Proofs.YtldkgicmfbofiaaGreatDoor
open Go.Eng Go.Kb
instance : Enc pcells 18 := ⟨pcells_size, fun p => (inferInstance : SizeIs (pcells p) 18).one⟩
set_option maxRecDepth 20000 in
theorem tplace1_c (w : World) (b2 b3 : Nat) (s : Sv) (ss : List Rt) (q : Pfx) (j : Nat) (h2 : Lies senc 1 (hp w) ⟨false, b2, 0, 1, 1, none⟩ [s]) (h3 : Lies pcells 18 (hp w) ⟨false, b3, 0, 1, 1, none⟩ [q]) (hs : Lies rcells 19 (hp w) s ss) (hj : j < ss.length) : Calls Tryz.prog 46 #[.int .i64 (j : Nat), .pointer (some ⟨b2, 0, none⟩), .pointer (some ⟨b3, 0, none⟩)] w fun e w' => e = .returned (.bool (behind ss q j)) ∧ Mem w [] w' := by
 have g2 : Gv w ⟨false, b2, 0, 1, 1, none⟩ senc 1 [s] := ⟨h2⟩
 have g3 : Gv w ⟨false, b3, 0, 1, 1, none⟩ pcells 18 [q] := ⟨h3⟩
 have gs : Gv w s rcells 19 ss := ⟨hs⟩
 refine calls_of (args := [_, _, _]) Tryz.func46 rfl Tryz.ntmps46 rfl ?_
 change Cw _ _ _ _ _ [(0, .int .i64 (j : Nat)), (1, .pointer (some ⟨b2, 0, none⟩)), (2, .pointer (some ⟨b3, 0, none⟩))] []
 refine cw_seq ?_
 refine cw_region ?_
 refine sq_r (ry_assign rfl) ?_
 refine sq_nil ?_
 refine ex_then ?_
 refine cw_seq ?_
 refine cw_quiet (by kernel_rfl) (by kernel_rfl) ?_
 refine qt_r (ry_elemcH (s := ⟨false, b2, 0, 1, 1, none⟩) (enc := senc) (c := 1) (xs := [s]) (a := s) (j := 0) (v := s.val) rfl 0 rfl rfl (by decide)) ?_
 refine qt_r (ry_move rfl) ?_
 obtain ⟨r, hr⟩ := get_some (xs := ss) (i := j) (by omega)
 refine qt_r (ry_idxH rfl rfl j rfl (by omega)) ?_
 refine qt_r (ry_field rfl rfl) ?_
 refine qt_r (ry_elempH (j := 0) rfl j hr rfl (by decide)) ?_
 refine qt_r (ry_elemH (s := ⟨false, b3, 0, 1, 1, none⟩) (enc := pcells) (c := 18) (xs := [q]) (a := q) rfl 0 rfl rfl) ?_
 refine qt_y (yl_callC rfl trivial) ?_
 refine qt_r (ry_not rfl) ?_
 refine qt_r (ry_assign rfl) ?_
 refine qt_nil ?_
 refine ex_then ?_
 refine cw_ret ?_
 refine ex_ret (.inl rfl) (res_1 rfl (rv_tmp rfl)) (fun w1 hw => ?_)
 exact ⟨congrArg (fun b => Ending.returned (Value.bool b)) ((by simp only [behind, hr])), Keep.mem hw⟩

set_option maxRecDepth 20000 in
theorem tsearch_c (w : World) (n : Nat) (p : Nat → Bool) (f : FuncId) [hf : IsFn Tryz.prog f] (caps : Array Value) (hF : ∀ w', Mem w [] w' → ∀ j : Nat, j < n → Calls Tryz.prog f ([Value.int .i64 (j : Nat)] ++ caps.toList).toArray w' fun e w'' => e = .returned (.bool (p j)) ∧ Mem w' [] w'') (hn : n ≤ 1000000000) : Calls Tryz.prog 45 #[.int .i64 (n : Nat), .func (.func f) #[] caps] w fun e w' => e = .returned (.int .i64 (bs p n : Nat)) ∧ Mem w [] w' := by
 refine calls_of (args := [_, _]) Tryz.func45 rfl Tryz.ntmps45 rfl ?_
 change Cw _ _ _ _ _ [(0, .int .i64 (n : Nat)), (1, .func (.func f) #[] caps)] []
 refine cw_seq ?_
 refine cw_region ?_
 refine sq_r (ry_assign rfl) ?_
 refine sq_nil ?_
 refine ex_then ?_
 refine cw_seq ?_
 refine cw_region ?_
 refine sq_r (ry_move rfl) ?_
 refine sq_r (ry_assign rfl) ?_
 refine sq_r (ry_assign rfl) ?_
 refine sq_nil ?_
 refine ex_then ?_
 refine cw_seq ?_
 refine cw_block ?_
 refine cw_loop (X := Nat × Nat) (fun zz => [(5, .int .i64 (zz.1 : Nat)), (6, .int .i64 (zz.2 : Nat)), (1, .func (.func f) #[] caps)]) (fun zz => []) (fun zz => zz.1 ≤ zz.2 ∧ zz.2 ≤ n ∧ bsl p (n + 1) zz.1 zz.2 = bs p n) (fun zz => zz.2 - zz.1) (0, n) ⟨Nat.zero_le _, Nat.le_refl _, rfl⟩ (Sub.cons rfl (Sub.cons rfl (Sub.cons rfl (Sub.nil _)))) (fun w hw => Keep.mem hw) ?_
 rintro ⟨i, j⟩ ⟨hi1, hi2, hi3⟩
 dsimp only
 simp only at hi1 hi2 hi3
 refine cw_seq ?_
 refine cw_seq ?_
 refine cw_region ?_
 refine sq_r (ry_move rfl) ?_
 refine sq_r (ry_move rfl) ?_
 refine sq_r (ry_int rfl rfl rfl) ?_
 refine sq_nil ?_
 refine ex_then ?_
 refine cw_cond rfl (fun h0 => ?_) (fun h0 => ?_)
 ·
  try simp only [bz0, bz1, bz2, bz3, bz4, bz5, bz6, bz7, bz8, bz9] at h0
  refine cw_skip ?_
  refine ex_then ?_
  refine cw_block ?_
  refine cw_seq ?_
  refine cw_region ?_
  refine sq_r (ry_move rfl) ?_
  refine sq_r (ry_move rfl) ?_
  refine sq_r (ry_add rfl rfl (by omega)) ?_
  refine sq_r (ry_convn (n := i + j) rfl (by simp only [nb]; omega)) ?_
  refine sq_r (ry_shr (p := i + j) rfl rfl (by simp only [nb]; omega) (by omega)) ?_
  refine sq_r (ry_convn (n := (i + j) / 2 ^ 1) rfl (by simp only [nb]; omega)) ?_
  refine sq_r (ry_assign rfl) ?_
  refine sq_nil ?_
  refine ex_then ?_
  refine cw_seq ?_
  refine cw_region ?_
  refine sq_r (ry_move rfl) ?_
  refine sq_r (ry_move rfl) ?_
  refine sq_y (yl_fcall rfl rfl (fun w1 hw1 => hF w1 hw1 ((i + j) / 2) (by omega))) ?_
  refine sq_r (ry_not rfl) ?_
  refine sq_nil ?_
  refine ex_then ?_
  refine cw_cond rfl (fun h1 => ?_) (fun h1 => ?_)
  ·
   try simp only [bz0, bz1, bz2, bz3, bz4, bz5, bz6, bz7, bz8, bz9] at h1
   refine cw_region ?_
   refine sq_r (ry_move rfl) ?_
   refine sq_r (ry_add rfl rfl (by omega)) ?_
   refine sq_r (ry_assign rfl) ?_
   refine sq_nil ?_
   refine ex_block ?_
   exact ex_again (x := (i, j)) ((i + j) / 2 + 1, j) ⟨by first | omega | (simp only []; omega), hi2, by rw [← hi3, bsl_step (show i < j by first | omega | (simp only []; omega)) (by first | omega | (simp only []; omega)), if_neg (by rw [h1]; simp)]⟩ (by simp only; omega) (Sub.cons rfl (Sub.cons rfl (Sub.cons rfl (Sub.nil _)))) (fun w hw => Keep.mem hw)
  ·
   try simp only [bz0, bz1, bz2, bz3, bz4, bz5, bz6, bz7, bz8, bz9] at h1
   refine cw_region ?_
   refine sq_r (ry_move rfl) ?_
   refine sq_r (ry_assign rfl) ?_
   refine sq_nil ?_
   refine ex_block ?_
   exact ex_again (x := (i, j)) (i, (i + j) / 2) ⟨by first | omega | (simp only []; omega), by first | omega | (simp only []; omega), by rw [← hi3, bsl_step (show i < j by first | omega | (simp only []; omega)) (by first | omega | (simp only []; omega)), if_pos h1]⟩ (by simp only; omega) (Sub.cons rfl (Sub.cons rfl (Sub.cons rfl (Sub.nil _)))) (fun w hw => Keep.mem hw)
 ·
  try simp only [bz0, bz1, bz2, bz3, bz4, bz5, bz6, bz7, bz8, bz9] at h0
  refine cw_exit ?_
  refine ex_pass_exit ?_
  refine ex_pass_exit ?_
  refine ex_block_hit ?_
  refine ex_then ?_
  refine cw_seq ?_
  refine cw_region ?_
  refine sq_r (ry_move rfl) ?_
  refine sq_r (ry_assign rfl) ?_
  refine sq_nil ?_
  refine ex_then ?_
  refine cw_ret ?_
  refine ex_ret (.inl rfl) (res_1 rfl (rv_tmp rfl)) (fun w1 hw => ?_)
  exact ⟨congrArg (fun b => Ending.returned (Value.int .i64 b)) ((by rw [← hi3, bsl_stop (by omega) (by omega)])), Keep.mem hw⟩

set_option maxRecDepth 20000 in
theorem tplace_c (w : World) (t : Sv) (ts : List Rt) (p : Pfx) (ht : Lies rcells 19 (hp w) t ts) (hpre : ts.length ≤ 1000000) : Calls Tryz.prog 29 #[t.val, .agg (pcells p)] w fun e w' => e = .returned (.tuple #[.int .i64 ((placeN ts p : Nat) : Int), .bool (placeB ts p)]) ∧ Mem w [] w' := by
 have ght : Gv w t rcells 19 ts := ⟨ht⟩
 refine calls_of (args := [_, _]) Tryz.func29 rfl Tryz.ntmps29 rfl ?_
 change Cw _ _ _ _ _ [(0, t.val), (1, .agg (pcells p))] []
 refine cw_seq ?_
 refine cw_region ?_
 refine sq_box rfl fun b2 => ?_
 refine sq_boxA rfl fun b3 => ?_
 refine sq_r (ry_assign rfl) ?_
 refine sq_r (ry_assign rfl) ?_
 refine sq_nil ?_
 refine ex_then ?_
 refine cw_seq ?_
 refine cw_region ?_
 refine sq_r (ry_cellc rfl) ?_
 refine sq_r (ry_lenH rfl) ?_
 refine sq_r (ry_mkfunc (vs := [.pointer (some ⟨b2, 0, none⟩), .pointer (some ⟨b3, 0, none⟩)]) rfl) ?_
 refine sq_y (yl_call (v := .int .i64 (placeN ts p : Nat)) rfl (fun w1 hw1 => tsearch_c (f := 46) w1 ts.length (behind ts p) #[.pointer (some ⟨b2, 0, none⟩), .pointer (some ⟨b3, 0, none⟩)] (fun w2 hw2 j hj => tplace1_c w2 b2 b3 t ts p j ((holds_blk (b := b2) (cs := t.val.cells) (enc := senc) (xs := [t]) (n := 1) (by rw [Sv.cells_val]; rfl) rfl (by decide) w1 hw1).mono hw2.below) ((holds_blk (b := b3) (cs := pcells p) (enc := pcells) (c := 18) (xs := [p]) (n := 1) (by simp [flatR]) rfl (by decide) w1 hw1).mono hw2.below) (((inferInstance : Hd w _ t rcells 19 ts).h w1 hw1).mono hw2.below) hj) (by omega))) ?_
 refine sq_r (ry_assign rfl) ?_
 refine sq_nil ?_
 refine ex_then ?_
 refine cw_seq ?_
 refine cw_quiet (by kernel_rfl) (by kernel_rfl) ?_
 refine qt_r (ry_move rfl) ?_
 refine qt_r (ry_move rfl) ?_
 refine qt_r (ry_cellc rfl) ?_
 refine qt_r (ry_lenH rfl) ?_
 refine qt_r (ry_int rfl rfl rfl) ?_
 refine qt_r (ry_move rfl) ?_
 refine qt_gt rfl rfl rfl (fun hg => (Ry.yl (ry_cellc rfl))) ?_
 refine qt_gt rfl rfl rfl (fun hg => (Ry.yl (ry_move rfl))) ?_
 refine qt_gt rfl rfl rfl (fun hg => (Ry.yl (ry_idxH (ev_c hg rfl) (ev_c hg rfl) (placeN ts p) rfl (by simp only [bz0, bz1, bz2, bz3, bz4, bz5, bz6, bz7, bz8, bz9] at hg; omega)))) ?_
 refine qt_gt rfl rfl rfl (fun hg => (Ry.yl (ry_field (ev_c hg rfl) rfl))) ?_
 refine qt_gt rfl rfl rfl (fun hg => (Ry.yl (ry_elempH (j := 0) (ev_c hg rfl) (placeN ts p) (get_getD (xs := ts) (i := (placeN ts p)) (d := zroute) (by simp only [bz0, bz1, bz2, bz3, bz4, bz5, bz6, bz7, bz8, bz9] at hg; omega)) rfl (by decide)))) ?_
 refine qt_gt rfl rfl rfl (fun hg => (Ry.yl (ry_whole rfl))) ?_
 refine qt_gt rfl rfl rfl (fun hg => (Ry.yl (ry_eq (ev_c hg rfl) (ev_c hg rfl)))) ?_
 refine qt_r (ry_and rfl rfl rfl) ?_
 refine qt_r (ry_assign rfl) ?_
 refine qt_r (ry_assign rfl) ?_
 refine qt_nil ?_
 refine ex_then ?_
 refine cw_ret ?_
 refine ex_ret (.inl rfl) (res_2 rfl (rv_tmp rfl) (rv_tmp rfl)) (fun w1 hw => ?_)
 exact ⟨(by rw [placeB_eq]), Keep.mem hw⟩
instance tplace_i {w0 : World} {L : List Ent} {t : Sv} {ts : List Rt} {p : Pfx} [ht : HdE w0 L rcells 19 t ts] : FnQ Tryz.prog 29 w0 L [t.val, .agg (pcells p)] (.tuple #[.int .i64 ((placeN ts p : Nat) : Int), .bool (placeB ts p)]) (ts.length ≤ 1000000) := ⟨fun hp w hw => tplace_c w t ts p (ht.h w hw) hp⟩
set_option maxRecDepth 20000 in
theorem tbest_c (w : World) (t : Sv) (ts : List Rt) (k : Key) (bits : Int) (ht : Lies rcells 19 (hp w) t ts) : Calls Tryz.prog 11 #[t.val, .agg (kcells k), .int .i64 bits] w fun e w' => e = .returned (.tuple #[.agg (rcells (bestR ts k bits)), .int .i64 (bestE ts k bits)]) ∧ Mem w [] w' := by
 have ght : Gv w t rcells 19 ts := ⟨ht⟩
 refine calls_of (args := [_, _, _]) Tryz.func11 rfl Tryz.ntmps11 rfl ?_
 change Cw _ _ _ _ _ [(0, t.val), (1, .agg (kcells k)), (2, .int .i64 bits)] []
 refine cw_seq ?_
 refine cw_region ?_
 refine sq_boxA rfl fun b4 => ?_
 refine sq_allocA fun b6 => ?_
 refine sq_r (ry_assign rfl) ?_
 refine sq_nil ?_
 refine ex_then ?_
 refine cw_seq ?_
 refine cw_seq ?_
 refine cw_region ?_
 refine sq_r (ry_move rfl) ?_
 refine sq_y (yl_callC rfl trivial) ?_
 refine sq_r (ry_not rfl) ?_
 refine sq_r (ry_move rfl) ?_
 refine sq_gf rfl rfl rfl (fun hg => (Ry.yl (ry_move rfl))) ?_
 refine sq_gf rfl rfl rfl (fun hg => (Ry.yl (ry_move rfl))) ?_
 refine sq_gf rfl rfl rfl (fun hg => (Ry.yl (ry_whole rfl))) ?_
 refine sq_gf rfl rfl rfl (fun hg => (Ry.yl (ry_buildc (evp_cons (ev_c hg rfl) (evp_cons (ev_c hg rfl) (evp_cons (ev_c hg rfl) evp_nil)))))) ?_
 refine sq_gf rfl rfl rfl (fun hg => yl_callC (evl_cons (ev_c hg rfl) evl_nil) trivial) ?_
 refine sq_gf rfl rfl rfl (fun hg => (Ry.yl (ry_not (ev_c hg rfl)))) ?_
 refine sq_r (ry_or rfl rfl rfl) ?_
 refine sq_nil ?_
 refine ex_then ?_
 refine cw_cond rfl (fun h0 => ?_) (fun h0 => ?_)
 ·
  try simp only [bz0, bz1, bz2, bz3, bz4, bz5, bz6, bz7, bz8, bz9] at h0
  have hk : bestO ts k bits = false := by rw [bestO]; rcases h0 with h | h; rw [h]; rfl; rw [h]; simp
  refine cw_seq ?_
  refine cw_region ?_
  refine sq_r (ry_buildc rfl) ?_
  refine sq_storeW rfl rfl ?_
  refine sq_r (ry_assign rfl) ?_
  refine sq_nil ?_
  refine ex_then ?_
  refine cw_ret ?_
  refine ex_pass_ret ?_
  refine ex_ret (.inl rfl) (res_2 rfl (rv_agg rfl) (rv_tmp rfl)) (fun w1 hw => ?_)
  exact ⟨(by rw [bestR, if_neg (by rw [hk]; simp), bestE, if_neg (by rw [hk]; simp)]), Keep.mem hw⟩
 ·
  try simp only [bz0, bz1, bz2, bz3, bz4, bz5, bz6, bz7, bz8, bz9] at h0
  have hr : tright ts = true := by simpa using h0.1
  have hk : bestO ts k bits = true := by rw [bestO, hr]; simpa using h0.2
  have hlen := tr_len hr
  have hb : bits = 32 ∨ bits = 128 := ((pmay_iff _).1 (by simpa using h0.2 : pmay ⟨bits, bits, k⟩ = true)).1
  refine cw_skip ?_
  refine ex_then ?_
  refine cw_seq ?_
  refine cw_seq ?_
  refine cw_region ?_
  refine sq_r (ry_move rfl) ?_
  refine sq_r (ry_assign rfl) ?_
  refine sq_nil ?_
  refine ex_then ?_
  refine cw_block ?_
  refine cw_loop (X := Int) (fun zz => [(8, .int .i64 zz), (0, t.val), (2, .int .i64 bits), (4, .pointer (some ⟨b4, 0, none⟩)), (6, .pointer (some ⟨b6, 0, none⟩))]) (fun zz => [blk b6 (rcells zroute) 32, blk b4 (kcells k) 27]) (fun zz => -1 ≤ zz ∧ zz ≤ bits ∧ (zz < 0 → bestF ts k bits bits.toNat = none) ∧ (∀ m : Nat, zz = m → bestF ts k bits bits.toNat = bestF ts k bits m)) (fun zz => (zz + 1).toNat) bits ⟨by first | omega | (simp only []; omega), Int.le_refl _, fun h => by first | omega | (simp only []; omega), fun m h => by rw [h]; rfl⟩ (Sub.cons rfl (Sub.cons rfl (Sub.cons rfl (Sub.cons rfl (Sub.cons rfl (Sub.nil _)))))) (fun w hw => Keep.mem hw) ?_
  rintro n ⟨hn0, hn1, hn2, hn4⟩
  refine cw_seq ?_
  refine cw_seq ?_
  refine cw_region ?_
  refine sq_r (ry_move rfl) ?_
  refine sq_r (ry_int rfl rfl rfl) ?_
  refine sq_nil ?_
  refine ex_then ?_
  refine cw_cond rfl (fun h1 => ?_) (fun h1 => ?_)
  ·
   try simp only [bz0, bz1, bz2, bz3, bz4, bz5, bz6, bz7, bz8, bz9] at h1
   obtain ⟨m, rfl⟩ : ∃ m : Nat, n = (m : Int) := ⟨n.toNat, by omega⟩
   refine cw_skip ?_
   refine ex_then ?_
   refine cw_seq ?_
   refine cw_block ?_
   refine cw_seq ?_
   refine cw_region ?_
   refine sq_r (ry_move rfl) ?_
   refine sq_r (ry_move rfl) ?_
   refine sq_r (ry_whole rfl) ?_
   refine sq_r (ry_move rfl) ?_
   refine sq_y (yl_callC rfl trivial) ?_
   refine sq_r (ry_buildc rfl) ?_
   refine sq_allocA fun b9 => ?_
   refine sq_storeW rfl rfl ?_
   refine sq_nil ?_
   refine ex_then ?_
   refine cw_seq ?_
   refine cw_region ?_
   refine sq_r (ry_move rfl) ?_
   refine sq_r (ry_whole rfl) ?_
   refine sq_y (yl_callC rfl (by omega)) ?_
   refine sq_r (ry_move rfl) ?_
   refine sq_r (ry_extract (v := .int .i64 ((placeN ts (⟨bits, ((m : Nat) : Int), (kcut k ((m : Nat) : Int))⟩ : Pfx) : Nat) : Int)) rfl rfl) ?_
   refine sq_r (ry_extract (v := .bool (placeB ts (⟨bits, ((m : Nat) : Int), (kcut k ((m : Nat) : Int))⟩ : Pfx))) rfl rfl) ?_
   refine sq_r (ry_assign rfl) ?_
   refine sq_r (ry_assign rfl) ?_
   refine sq_nil ?_
   refine ex_then ?_
   refine cw_seq ?_
   refine cw_region ?_
   refine sq_r (ry_move rfl) ?_
   refine sq_nil ?_
   refine ex_then ?_
   refine cw_cond rfl (fun h2 => ?_) (fun h2 => ?_)
   ·
    try simp only [bz0, bz1, bz2, bz3, bz4, bz5, bz6, bz7, bz8, bz9] at h2
    have hba : ∃ r, ts[placeN ts ⟨bits, m, kcut k m⟩]? = some r ∧ bestAt ts k bits m = some r := by obtain ⟨r, _, h8, _⟩ := place_in h2; exact ⟨r, h8, by rw [bestAt, if_pos h2, h8]⟩
    obtain ⟨r, hr1, hr2⟩ := hba
    have hbs : bestF ts k bits bits.toNat = some r := by rw [hn4 m rfl]; cases m with | zero => exact hr2 | succ m => rw [bestF, hr2]
    refine cw_seq ?_
    refine cw_region ?_
    refine sq_r (ry_move rfl) ?_
    refine sq_r (ry_move rfl) ?_
    refine sq_r (ry_idxH rfl rfl (placeN ts ⟨bits, m, kcut k m⟩) (by omega) (List.getElem?_eq_some_iff.1 hr1).1) ?_
    refine sq_r (ry_elemH rfl (placeN ts ⟨bits, m, kcut k m⟩) hr1 rfl) ?_
    refine sq_storeW rfl rfl ?_
    refine sq_r (ry_assign rfl) ?_
    refine sq_nil ?_
    refine ex_then ?_
    refine cw_ret ?_
    refine ex_block_ret ?_
    refine ex_pass_ret ?_
    refine ex_pass_ret ?_
    refine ex_block_ret ?_
    refine ex_pass_ret ?_
    refine ex_ret (.inl rfl) (res_2 rfl (rv_agg rfl) (rv_tmp rfl)) (fun w1 hw => ?_)
    exact ⟨(by rw [bestR, if_pos hk, bestE, if_pos hk, hbs]; rfl), Keep.mem hw⟩
   ·
    try simp only [bz0, bz1, bz2, bz3, bz4, bz5, bz6, bz7, bz8, bz9] at h2
    have hba : bestAt ts k bits m = none := by rw [bestAt, if_neg (by rw [h2]; simp)]
    refine cw_skip ?_
    refine ex_block ?_
    refine ex_then ?_
    refine cw_region ?_
    refine sq_r (ry_move rfl) ?_
    refine sq_r (ry_sub rfl rfl (by omega)) ?_
    refine sq_r (ry_assign rfl) ?_
    refine sq_nil ?_
    exact ex_again (x := ((m : Nat) : Int)) ((m : Int) - 1) ⟨by first | omega | (simp only []; omega), by first | omega | (simp only []; omega), fun h => by obtain rfl : m = 0 := (by first | omega | (simp only []; omega)); rw [hn4 0 rfl]; exact hba, fun m2 h => by obtain rfl : m = m2 + 1 := (by first | omega | (simp only []; omega)); rw [hn4 _ rfl, bestF, hba]⟩ (by first | omega | (simp only []; omega)) (Sub.cons rfl (Sub.cons rfl (Sub.cons rfl (Sub.cons rfl (Sub.cons rfl (Sub.nil _)))))) (fun w hw => Keep.mem hw)
  ·
   try simp only [bz0, bz1, bz2, bz3, bz4, bz5, bz6, bz7, bz8, bz9] at h1
   have hbn : bestF ts k bits bits.toNat = none := hn2 (by omega)
   refine cw_exit ?_
   refine ex_pass_exit ?_
   refine ex_pass_exit ?_
   refine ex_block_hit ?_
   refine ex_then ?_
   refine cw_seq ?_
   refine cw_region ?_
   refine sq_r (ry_buildc rfl) ?_
   refine sq_storeW rfl rfl ?_
   refine sq_r (ry_assign rfl) ?_
   refine sq_nil ?_
   refine ex_then ?_
   refine cw_ret ?_
   refine ex_ret (.inl rfl) (res_2 rfl (rv_agg rfl) (rv_tmp rfl)) (fun w1 hw => ?_)
   exact ⟨(by rw [bestR, if_pos hk, bestE, if_pos hk, hbn]; rfl), Keep.mem hw⟩
instance tbest_i {w0 : World} {L : List Ent} {t : Sv} {ts : List Rt} {k : Key} {bits : Int} [ht : HdE w0 L rcells 19 t ts] : FnQ Tryz.prog 11 w0 L [t.val, .agg (kcells k), .int .i64 bits] (.tuple #[.agg (rcells (bestR ts k bits)), .int .i64 (bestE ts k bits)]) (True) := ⟨fun hp w hw => tbest_c w t ts k bits (ht.h w hw)⟩

end Go.Proofs.YtldkgicmfbofiaaGreatDoor

/- Rows opened to their cells: moved within a block, made longer in their room or anew. -/
namespace Go.Eng
open Go.RowKit

theorem over_cat {A X V : List Value} {o : Nat} (h : o = A.length) : over (A ++ X).toArray o V.toArray = (A ++ (V ++ X.drop V.length)).toArray := by
  subst h
  unfold over
  simp only [List.size_toArray, List.append_assoc]
  rw [List.take_left, List.drop_append]
  simp
section
variable {α : Type} {enc : α → Array Value} {c : Nat} {s : Sv} {xs : List α}
theorem flatR_app (xs ys : List α) : flatR enc (xs ++ ys) = flatR enc xs ++ flatR enc ys := by simp [flatR]
theorem row_cells [he : Enc enc c] (hc : 0 < c) {cs : Array Value} {o : Nat} (hsz : o + xs.length * c ≤ cs.size) (hr : ∀ i x, xs[i]? = some x → ∀ j, j < c → cs[o + i * c + j]? = (enc x)[j]?) :
    cs = (cs.toList.take o ++ (flatR enc xs ++ cs.toList.drop (o + xs.length * c))).toArray := by
  have key : (cs.toList.drop o).take (xs.length * c) = flatR enc xs := by
    refine List.ext_getElem? fun k => ?_
    rcases Nat.lt_or_ge k (xs.length * c) with hk | hk
    · rw [List.getElem?_take_of_lt hk, List.getElem?_drop, Array.getElem?_toList]
      have hd : k / c < xs.length := Nat.div_lt_of_lt_mul (by rwa [Nat.mul_comm])
      have hm := Nat.mod_lt k hc
      have e : k / c * c + k % c = k := by rw [Nat.mul_comm]; exact Nat.div_add_mod k c
      have h1 := hr (k / c) xs[k / c] (by simp [hd]) (k % c) hm
      have h2 := flatR_get (enc := enc) xs (k / c) xs[k / c] (by simp [hd]) (k % c) hm
      rw [e] at h2
      rw [h2, ← h1]; congr 1; omega
    · rw [List.getElem?_eq_none (by simp; omega), List.getElem?_eq_none (by rw [flatR_length]; omega)]
  apply Array.ext'
  simp only
  rw [← key, ← List.append_assoc, show o + xs.length * c = o + xs.length * c from rfl, ← List.drop_drop, List.append_assoc, List.take_append_drop, List.take_append_drop]
theorem min_l {a b : Nat} (h : a ≤ b) : a = Nat.min a b := (Nat.min_eq_left h).symm
theorem min_r {a b : Nat} (h : b ≤ a) : b = Nat.min a b := (Nat.min_eq_right h).symm
theorem set_set {L : List Ent} {i : Nat} {e e' : Ent} : (L.set i e).set i e' = L.set i e' := by simp

theorem own_open [he : Enc enc c] (hc : 1 < c) {w0 w : World} {L : List Ent} {i : Nat} (hw : Mem w0 L w) (hi : L[i]? = some (own enc c s xs)) (hn : s.nil = false) :
    ∃ pre mid T, pre.length = s.o ∧ s.o + s.cap * c ≤ pre.length + (xs.length * c + mid.length) ∧ s.sp = none ∧ s.Ok ∧ s.len = xs.length ∧ Mem w0 (L.set i (blk s.b (pre ++ (flatR enc xs ++ mid)).toArray T)) w := by
  obtain ⟨r, hrow⟩ := hw.get hi
  obtain ⟨hsp, cs, T, fz, hblk, hsz, hfz, hf0⟩ := hrow hn
  obtain rfl := hf0 hc
  have hle := r.ok.le
  have hlen := r.len
  have hm : xs.length * c ≤ s.cap * c := Nat.mul_le_mul_right _ (by omega)
  have e := row_cells (enc := enc) (c := c) (xs := xs) (cs := cs) (o := s.o) (by omega) (by omega) fun i x hx j hj => by
    rw [← r.row i x hx j hj]; unfold cellH; rw [hblk]
  refine ⟨cs.toList.take s.o, cs.toList.drop (s.o + xs.length * c), T, by simp; omega, by simp; omega, hsp, r.ok, hlen, ?_⟩
  rw [← e]
  exact hw.change hi (fun k (hk : k = s.b) => ⟨hn, hk⟩) (fun _ _ => rfl) rfl ⟨rfl, rfl, rfl⟩ hblk
theorem own_shut [he : Enc enc c] {w0 w : World} {L : List Ent} {i b : Nat} {pre mid : List Value} {T : TypeId} (hw : Mem w0 L w) (hi : L[i]? = some (blk b (pre ++ (flatR enc xs ++ mid)).toArray T)) (s' : Sv) (hok : s'.Ok) (hn : s'.nil = false) (hb : s'.b = b) (hsp : s'.sp = none) (ho : s'.o = pre.length) (hl : s'.len = xs.length)
    (hcap : s'.o + s'.cap * c ≤ pre.length + (xs.length * c + mid.length)) : Mem w0 (L.set i (own enc c s' xs)) w := by
  subst hb
  have hblk : hp w s'.b = some (.cells (pre ++ (flatR enc xs ++ mid)).toArray T (0, 0)) := hw.block hi
  refine hw.change hi (fun k hk => hk.2) (fun _ _ => rfl) rfl ⟨rfl, rfl, rfl⟩ ⟨rows_of hok hl hblk fun k y hy j hj => ?_, fun _ => ⟨hsp, _, _, _, hblk, by simp [flatR_length]; omega, free_00 _, fun _ => rfl⟩⟩
  have hlt : k * c + j < (flatR enc xs).length := by
    rw [flatR_length]
    have h1 := (List.getElem?_eq_some_iff.1 hy).1
    calc k * c + j < k * c + c := by omega
      _ = (k + 1) * c := by rw [Nat.add_mul]; omega
      _ ≤ _ := Nat.mul_le_mul_right _ h1
  rw [List.getElem?_toArray, List.getElem?_append_right (by omega), List.getElem?_append_left (by omega), ← flatR_get (enc := enc) xs k y hy j hj]
  congr 1; omega
theorem Sv.sub_o {lo hi : Nat} (h : lo < s.cap) : (s.sub c lo hi).o = s.o + lo * c := by simp only [Sv.sub]; rw [if_neg (by omega)]
theorem Sv.sub_0 {hi : Nat} : (s.sub c 0 hi).o = s.o := by simp only [Sv.sub]; split <;> simp
theorem Sv.sub_eq {hi : Nat} (hn : s.nil = false) (hsp : s.sp = .none) : s.sub c 0 hi = ⟨false, s.b, s.o, hi, s.cap, .none⟩ := by
  have h0 := Sv.sub_0 (s := s) (c := c) (hi := hi)
  obtain ⟨sn, sb, so, sl, sc, ss⟩ := s
  simp only [Sv.sub] at h0 hn hsp ⊢
  subst hn hsp
  rw [h0]; rfl
end

section
variable {P : Program} {N : Fra} {w0 : World} {env : Env} {L : List Ent} {Q : Exit → Act → World → Prop} {l rest : List Oper} {d : Option Tmp} {ty : TypeId} {ps : String} {af : Array Edge} {gd : Option (Nat × Bool)} {K : Value → List Ent → Prop}
variable {α : Type} {enc : α → Array Value} {c : Nat} {s : Sv} {xs : List α}
theorem blk_cells {w : World} {pre A mid : List Value} {T : TypeId} {b o : Nat} {L' : List Ent} (hw : Mem w0 (blk b (pre ++ (A ++ mid)).toArray T :: L') w) (ho : pre.length = o) {j : Nat} {u : Value} (hj : A[j]? = some u) : w.cell? ⟨b, o + j, none⟩ = some u := by
  have hjl := (List.getElem?_eq_some_iff.1 hj).1
  have h0 : (blk b (pre ++ (A ++ mid)).toArray T :: L')[0]? = some (blk b (pre ++ (A ++ mid)).toArray T) := rfl
  rw [hw.cell h0, List.getElem?_toArray, List.getElem?_append_right (by omega), List.getElem?_append_left (by omega), ← hj]
  congr 1; omega
theorem cw_open {code : Code} [he : Enc enc c] {i : Nat} (q : Owns L s enc c xs i) (hc : 1 < c) (hn : 0 < xs.length) {L' : List Value → List Value → TypeId → List Ent} [hu : ∀ pre mid T, Upd L i (blk s.b (pre ++ (flatR enc xs ++ mid)).toArray T) (L' pre mid T)]
    (h : ∀ pre mid T, pre.length = s.o → s.o + s.cap * c ≤ pre.length + (xs.length * c + mid.length) → s.nil = false → s.sp = none → s.Ok → s.len = xs.length → Cw P N w0 Q code env (L' pre mid T)) : Cw P N w0 Q code env L := fun a w ha hw => by
  have hnil := (hw.get q.h).1.some hn
  obtain ⟨pre, mid, T, h1, h2, h3, h4, h5, h6⟩ := own_open hc hw q.h hnil
  rw [(hu pre mid T).h] at h6
  exact h pre mid T h1 h2 hnil h3 h4 h5 a w ha h6
theorem cw_owned {code : Code} {i : Nat} (q : Owns L s enc c xs i) (hn : 0 < xs.length) (h : s.nil = false → s.sp = none → s.Ok → s.len = xs.length → Cw P N w0 Q code env L) : Cw P N w0 Q code env L := fun a w ha hw => by
  obtain ⟨r, hrow⟩ := hw.get q.h
  have hnil := r.some hn
  exact h hnil (hrow hnil).1 r.ok r.len a w ha hw
theorem own_cells [he : Enc enc c] (hc : 0 < c) {i : Nat} (q : Owns L s enc c xs i) {w : World} (hw : Mem w0 L w) {j : Nat} {v : Value} (hj : (flatR enc xs)[j]? = some v) : w.cell? ⟨s.b, s.o + j, none⟩ = some v := by
  obtain ⟨x, hx, hv⟩ := flatR_div hc hj
  have r := (hw.get q.h).1
  rw [cell_hp, ← hv, ← r.row _ x hx (j % c) (Nat.mod_lt _ hc)]
  congr 1
  have := Nat.div_add_mod j c
  rw [Nat.mul_comm] at this; omega
theorem run_copy_rows (w : World) (dT sT ty elem : TypeId) (b o dLen dCap : Nat) (a : Addr) (sLen sCap n : Nat) (cur : Array Value) (t : TypeId) (vs : List Value)
    (hu : P.underlying dT = some (.slice elem)) (hs : (P.info? elem).map (·.size) = some c) (hg : w.heap[b]? = some (.cells cur t (0, 0))) (hn : n = Nat.min sLen dLen) (hv : vs.length = n * c)
    (hsrc : ∀ j v, vs[j]? = some v → w.cell? (a.add j) = some v) (hfit : o + vs.length ≤ cur.size) (h1 : ∀ v ∈ vs, v.oneCell' = true) :
    (Builtin.copy_ #[dT, sT] ty #[.slice (some ⟨b, o, none⟩) dLen dCap, .slice (some a) sLen sCap]).run P w = .ok (goInt n) (w.setRow b (over cur o vs.toArray)) := by
  have hl := run_loadCells_list (P := P) w a vs hsrc
  have hst := run_storeCells_at P b o t vs 0 cur w hg (by simpa using hfit) h1
  rw [hv] at hl
  cases hq : P.info? elem with
  | none => simp [hq] at hs
  | some i =>
    have hi : i.size = c := by simpa [hq] using hs
    simp [Builtin.copy_, run_underlying hu, Builtin.lenOf, Builtin.firstCells, sizeOf, typeInfo, hq, hi, ← hn, hl, hst, over]
theorem sq_copyB {D S : Sv} {x y : Operand} {tx tys e : TypeId} {i b o n : Nat} {cs : Array Value} {T : TypeId} {vs : List Value} (hx : ev env x = some D.val) (hy : ev env y = some S.val)
    (hDn : D.nil = false) (hDs : D.sp = none) (hDb : D.b = b) (hDo : D.o = o) (hSn : S.nil = false) (hSs : S.sp = none) [ht : SliceT P tx e c] [hh : Has L b cs T i] (hn : n = Nat.min S.len D.len) (hv : vs.length = n * c)
    (hsrc : ∀ w, Mem w0 L w → ∀ j v, vs[j]? = some v → w.cell? ⟨S.b, S.o + j, none⟩ = some v) (h1 : ∀ v ∈ vs, v.oneCell' = true) (ho : o + vs.length ≤ cs.size) {cs' : Array Value} {L' : List Ent} (hcs : over cs o vs.toArray = cs') [hu : Upd L i (blk b cs' T) L']
    (hk : Sq P N w0 l Q rest (putE env d (.int .i64 n)) L') (hd : dstOk N d = true := by rfl) :
    Sq P N w0 l Q (⟨d, .call { callee := .builtin .copy, args := #[x, y], argTypes := #[tx, tys] }, ty, ps, af, none⟩ :: rest) env L :=
  sq_run rfl hd fun aa w ha hw => by
    rw [Sv.val_some hDn, hDs, hDb, hDo] at hx
    rw [Sv.val_some hSn, hSs] at hy
    have hb := hw.block hh.h
    have hrun := run_copy_rows (P := P) w tx tys ty e b o D.len D.cap ⟨S.b, S.o, none⟩ S.len S.cap n cs T vs ht.und ht.size hb hn hv (fun j v hj => by rw [Addr.add_none]; exact hsrc w hw j v hj) ho h1
    refine ⟨_, _, _, ?_, by rw [← hu.h, ← hcs]; exact hw.setRow hh.h _, hk⟩
    simp [execOp, ha.ev hx, ha.ev hy, resolve, invoke, builtin, hrun, Result.andThen, goInt]
theorem st_copyB {D S : Sv} {x y : Operand} {tx tys e : TypeId} {i b o n : Nat} {cs : Array Value} {T : TypeId} {vs : List Value} (hx : ev env x = some D.val) (hy : ev env y = some S.val)
    (hDn : D.nil = false) (hDs : D.sp = none) (hDb : D.b = b) (hDo : D.o = o) (hSn : S.nil = false) (hSs : S.sp = none) [ht : SliceT P tx e c] [hh : Has L b cs T i] (hn : n = Nat.min S.len D.len) (hv : vs.length = n * c)
    (hsrc : ∀ w, Mem w0 L w → ∀ j v, vs[j]? = some v → w.cell? ⟨S.b, S.o + j, none⟩ = some v) (h1 : ∀ v ∈ vs, v.oneCell' = true) (ho : o + vs.length ≤ cs.size) {cs' : Array Value} {L' : List Ent} (hcs : over cs o vs.toArray = cs') [hu : Upd L i (blk b cs' T) L']
    (hk : K (.int .i64 n) L') :
    Stp P N w0 env L ⟨d, .call { callee := .builtin .copy, args := #[x, y], argTypes := #[tx, tys] }, ty, ps, af, none⟩ K :=
  st_run fun aa w ha hw => by
    rw [Sv.val_some hDn, hDs, hDb, hDo] at hx
    rw [Sv.val_some hSn, hSs] at hy
    have hb := hw.block hh.h
    have hrun := run_copy_rows (P := P) w tx tys ty e b o D.len D.cap ⟨S.b, S.o, none⟩ S.len S.cap n cs T vs ht.und ht.size hb hn hv (fun j v hj => by rw [Addr.add_none]; exact hsrc w hw j v hj) ho h1
    refine ⟨_, _, _, ?_, by rw [← hu.h, ← hcs]; exact hw.setRow hh.h _, hk⟩
    simp [execOp, ha.ev hx, ha.ev hy, resolve, invoke, builtin, hrun, Result.andThen, goInt]
theorem st_appendB {D S : Sv} {x y : Operand} {tx tys e e' : TypeId} {by' i b o n : Nat} {cs : Array Value} {T : TypeId} {vs : List Value} (hx : ev env x = some D.val) (hy : ev env y = some S.val)
    (hDn : D.nil = false) (hDs : D.sp = none) (hDb : D.b = b) (hDo : D.o + D.len * c = o) (hSn : S.nil = false) (hSs : S.sp = none) [ht : SlT P tx e c by'] (hts : P.underlying tys = some (.slice e')) [hh : Has L b cs T i] (hn : S.len = n) (hv : vs.length = n * c) (hroom : D.len + n ≤ D.cap)
    (hsrc : ∀ w, Mem w0 L w → ∀ j v, vs[j]? = some v → w.cell? ⟨S.b, S.o + j, none⟩ = some v) (h1 : ∀ v ∈ vs, v.oneCell' = true) (ho : o + vs.length ≤ cs.size) {cs' : Array Value} {L' : List Ent} (hcs : over cs o vs.toArray = cs') [hu : Upd L i (blk b cs' T) L']
    {R : Sv} (hR : R = ⟨false, b, D.o, D.len + n, D.cap, none⟩) (hk : K R.val L') :
    Stp P N w0 env L ⟨d, .call { callee := .builtin .append, args := #[x, y], argTypes := #[tx, tys] }, ty, ps, af, none⟩ K :=
  st_run fun aa w ha hw => by
    subst hR hDo hDb
    rw [Sv.val_some hDn, hDs] at hx
    rw [Sv.val_some hSn, hSs, hn] at hy
    have hb := hw.block hh.h
    obtain ⟨i', z, hi1, hi2, hi3, hi4, hzc⟩ := ht.info
    have hs := Src.ofSlice (P := P) (size := c) w hts ⟨S.b, S.o, none⟩ n S.cap vs hv (fun j v hj => by rw [Addr.add_none]; exact hsrc w hw j v hj) h1
    have hst := run_storeCells_at P D.b (D.o + D.len * c) T vs 0 cs w hb (by simpa using ho) h1
    have hrun : (Builtin.append_ #[tx, tys] ty #[.slice (some ⟨D.b, D.o, none⟩) D.len D.cap, .slice (some ⟨S.b, S.o, none⟩) n S.cap]).run P w = .ok (.slice (some ⟨D.b, D.o, none⟩) (D.len + n) D.cap) (w.setRow D.b (over cs (D.o + D.len * c) vs.toArray)) := by
      subst hi3
      rcases hs.kind with ⟨e', hk⟩ | hk <;> simp [Builtin.append_, run_underlying ht.und, run_underlying hk, sizeOf, typeInfo, hi1, hs.len, hroom, hs.cells, Addr.add_none, hst, over]
    refine ⟨_, _, _, ?_, by rw [← hu.h, ← hcs]; exact hw.setRow hh.h _, hk⟩
    simp [execOp, ha.ev hx, ha.ev hy, resolve, invoke, builtin, hrun, Result.andThen, Sv.val]
theorem sq_appendB {D S : Sv} {x y : Operand} {tx tys e e' : TypeId} {by' i b o n : Nat} {cs : Array Value} {T : TypeId} {vs : List Value} (hx : ev env x = some D.val) (hy : ev env y = some S.val)
    (hDn : D.nil = false) (hDs : D.sp = none) (hDb : D.b = b) (hDo : D.o + D.len * c = o) (hSn : S.nil = false) (hSs : S.sp = none) [ht : SlT P tx e c by'] (hts : P.underlying tys = some (.slice e')) [hh : Has L b cs T i] (hn : S.len = n) (hv : vs.length = n * c) (hroom : D.len + n ≤ D.cap)
    (hsrc : ∀ w, Mem w0 L w → ∀ j v, vs[j]? = some v → w.cell? ⟨S.b, S.o + j, none⟩ = some v) (h1 : ∀ v ∈ vs, v.oneCell' = true) (ho : o + vs.length ≤ cs.size) {cs' : Array Value} {L' : List Ent} (hcs : over cs o vs.toArray = cs') [hu : Upd L i (blk b cs' T) L']
    {R : Sv} (hR : R = ⟨false, b, D.o, D.len + n, D.cap, none⟩) (hk : Sq P N w0 l Q rest (putE env d R.val) L') (hd : dstOk N d = true := by rfl) :
    Sq P N w0 l Q (⟨d, .call { callee := .builtin .append, args := #[x, y], argTypes := #[tx, tys] }, ty, ps, af, none⟩ :: rest) env L :=
  sq_run rfl hd fun aa w ha hw => by
    subst hR hDo hDb
    rw [Sv.val_some hDn, hDs] at hx
    rw [Sv.val_some hSn, hSs, hn] at hy
    have hb := hw.block hh.h
    obtain ⟨i', z, hi1, hi2, hi3, hi4, hzc⟩ := ht.info
    have hs := Src.ofSlice (P := P) (size := c) w hts ⟨S.b, S.o, none⟩ n S.cap vs hv (fun j v hj => by rw [Addr.add_none]; exact hsrc w hw j v hj) h1
    have hst := run_storeCells_at P D.b (D.o + D.len * c) T vs 0 cs w hb (by simpa using ho) h1
    have hrun : (Builtin.append_ #[tx, tys] ty #[.slice (some ⟨D.b, D.o, none⟩) D.len D.cap, .slice (some ⟨S.b, S.o, none⟩) n S.cap]).run P w = .ok (.slice (some ⟨D.b, D.o, none⟩) (D.len + n) D.cap) (w.setRow D.b (over cs (D.o + D.len * c) vs.toArray)) := by
      subst hi3
      rcases hs.kind with ⟨e', hk⟩ | hk <;> simp [Builtin.append_, run_underlying ht.und, run_underlying hk, sizeOf, typeInfo, hi1, hs.len, hroom, hs.cells, Addr.add_none, hst, over]
    refine ⟨_, _, _, ?_, by rw [← hu.h, ← hcs]; exact hw.setRow hh.h _, hk⟩
    simp [execOp, ha.ev hx, ha.ev hy, resolve, invoke, builtin, hrun, Result.andThen, Sv.val]
theorem sq_appendZ {D : Sv} {x y : Operand} {tx tys e : TypeId} {by' k : Nat} {z : Value} {olds : List Value} {kn kq : IntKind} {iy : Int} {p m : Nat} (hp : D.len = p) (hm : p + k = m) (hx : ev env x = some D.val) (hy : ev env y = some (.int kq iy)) (hk0 : iy = (k : Int)) (h0 : 0 < k)
    (hDn : D.nil = false) (hDs : D.sp = none) [ht : SlT P tx e c by'] (hc : 0 < c) [hz : ZeroT P e z] (htn : P.underlying tys = some (.int kn)) (holds : olds.length = D.len * c) (hsrc : ∀ w, Mem w0 L w → ∀ j v, olds[j]? = some v → w.cell? ⟨D.b, D.o + j, none⟩ = some v)
    (hg : D.cap < D.len + k) (hb : (D.len + k) * by' ≤ 140737488355328) (h63 : D.len + k ≤ 140737488355328)
    (hk : ∀ (b C : Nat) (Z : List Value), m ≤ C → p * c + Z.length = C * c → Sq P N w0 l Q rest (putE env d (Sv.val ⟨false, b, 0, m, C, none⟩)) (blk b (olds ++ Z).toArray e :: L)) (hd : dstOk N d = true := by rfl) :
    Sq P N w0 l Q (⟨d, .call { callee := .builtin .append, args := #[x, y], argTypes := #[tx, tys] }, ty, ps, af, none⟩ :: rest) env L :=
  sq_run rfl hd fun aa w ha hw => by
    subst hk0 hp hm
    rw [Sv.val_some hDn, hDs] at hx
    obtain ⟨i', z', hi1, hi2, hi3, hi4, hzc⟩ := ht.info
    subst hi3 hi4
    have hcap := nextslicecap_le hg
    have hfit : Builtin.nextslicecap (D.len + k) D.cap * i'.bytes ≤ 281474976710656 := by
      have h2 : Builtin.nextslicecap (D.len + k) D.cap * i'.bytes ≤ 2 * (D.len + k) * i'.bytes := Nat.mul_le_mul_right _ hcap
      rw [Nat.mul_assoc] at h2
      omega
    have h48 : k * i'.bytes ≤ 281474976710656 := by
      have : k * i'.bytes ≤ (D.len + k) * i'.bytes := Nat.mul_le_mul_right _ (by omega)
      omega
    have hold := run_firstCells_some (P := P) w.drew i'.size D.len ⟨D.b, D.o, none⟩ D.len D.cap olds holds (fun j v hj => by rw [Addr.add_none]; exact hsrc w hw j v hj)
    have hrun := Lib.run_append_grow_zeros (P := P) w tx tys ty e i' z' kq kn ht.und htn hi1 hi2 (some ⟨D.b, D.o, none⟩) D.len D.cap olds hold k h0 hc hg (by omega) h48 hfit
    have hcge := grownCap_ge w (D.len + k) D.cap e
    generalize grownCap w (D.len + k) D.cap e = C at hrun hcge
    have hZ1 := size_zeroCells z'.cells k
    have hZ2 := size_zeroCells z'.cells (C - (D.len + k))
    rw [hzc] at hZ1 hZ2
    have hZ : D.len * i'.size + (Builtin.zeroCells z'.cells k ++ Builtin.zeroCells z'.cells (C - (D.len + k))).toList.length = C * i'.size := by
      rw [Array.length_toList, Array.size_append, hZ1, hZ2, ← Nat.add_mul, ← Nat.add_mul]; congr 1; omega
    have e1 : olds.toArray ++ Builtin.zeroCells z'.cells k ++ Builtin.zeroCells z'.cells (C - (D.len + k)) = (olds ++ (Builtin.zeroCells z'.cells k ++ Builtin.zeroCells z'.cells (C - (D.len + k))).toList).toArray := by apply Array.ext'; simp
    rw [e1] at hrun
    refine ⟨_, _, _, ?_, hw.drew.alloc _ e, hk w.heap.size C _ hcge hZ⟩
    simp [execOp, ha.ev hx, ha.ev hy, resolve, invoke, builtin, hrun, Result.andThen, Sv.val]
theorem sq_clearB {D : Sv} {x : Operand} {tx e : TypeId} {by' i b o n : Nat} {z : Value} {cs : Array Value} {T : TypeId} (hx : ev env x = some D.val) (hDn : D.nil = false) (hDs : D.sp = none) (hDb : D.b = b) (hDo : D.o = o) (hn : D.len = n) (h0 : 0 < n) [ht : SlT P tx e c by'] [hz : ZeroT P e z] (h1 : z.cells.all (·.oneCell') = true) [hh : Has L b cs T i] (ho : o + n * c ≤ cs.size)
    {L' : List Value → List Ent} [hu : ∀ Z, Upd L i (blk b (over cs o Z.toArray) T) (L' Z)] (hk : ∀ Z : List Value, Z.length = n * c → Sq P N w0 l Q rest env (L' Z)) :
    Sq P N w0 l Q (⟨none, .call { callee := .builtin .clear, args := #[x], argTypes := #[tx] }, ty, ps, af, none⟩ :: rest) env L :=
  sq_run rfl rfl fun aa w ha hw => by
    rw [Sv.val_some hDn, hDs, hDb, hDo, hn] at hx
    have hb := hw.block hh.h
    obtain ⟨i', z', hi1, hi2, hi3, hi4, hzc⟩ := ht.info
    obtain rfl : z' = z := by
      have := hz.zero
      rw [hi1, Option.map_some, hi2] at this; exact Option.some.inj (Option.some.inj this)
    subst hi3
    have hZ := size_zeroCells z'.cells n
    rw [hzc] at hZ
    have hone : ∀ v ∈ (Builtin.zeroCells z'.cells n).toList, v.oneCell' = true := fun v hv => by
      simp only [Builtin.zeroCells, Array.toList_map, List.mem_map] at hv
      obtain ⟨j, hj, rfl⟩ := hv
      have h0' : 0 < z'.cells.size := by
        rcases Nat.eq_zero_or_pos z'.cells.size with h | h
        · rw [h] at hj; simp at hj
        · exact h
      rw [getElem!_pos z'.cells _ (Nat.mod_lt _ h0')]
      exact (Array.all_eq_true_iff_forall_mem.1 h1) _ (Array.getElem_mem _)
    have hst := run_storeCells_at P b o T (Builtin.zeroCells z'.cells n).toList 0 cs w hb (by simp [hZ]; omega) hone
    have hrun : (Builtin.clear_ #[tx] ty #[.slice (some ⟨b, o, none⟩) n D.cap]).run P w = .ok (.tuple #[]) (w.setRow b (over cs o (Builtin.zeroCells z'.cells n))) := by
      obtain ⟨m, rfl⟩ : ∃ m, n = m + 1 := ⟨n - 1, by omega⟩
      simp [Builtin.clear_, run_underlying ht.und, zeroValue, typeInfo, hi1, hi2, hst, over]
    refine ⟨.tuple #[], w.setRow b (over cs o (Builtin.zeroCells z'.cells n)), L' (Builtin.zeroCells z'.cells n).toList, ?_, ?_, hk _ (by rw [Array.length_toList, hZ])⟩
    · simp [execOp, ha.ev hx, resolve, invoke, builtin, hrun, Result.andThen]
    · have h9 := hw.setRow hh.h (over cs o (Builtin.zeroCells z'.cells n))
      rw [← (hu _).h]
      simpa using h9
def Sv.top (s : Sv) (m : Nat) : Sv := ⟨s.nil, s.b, s.o, s.len, m, s.sp⟩
theorem ry_subH3 {t e : TypeId} {x lo hi mx : Operand} {l h m : Nat} {k k' k'' : IntKind} {il ih im : Int} [ht : SliceT P t e c] (hx : ev env x = some s.val) [q : Hd w0 L s enc c xs] (hl : ev env lo = some (.int k il)) (hh : ev env hi = some (.int k' ih)) (hm : ev env mx = some (.int k'' im)) (el : il = (l : Int)) (eh : ih = (h : Int)) (em : im = (m : Int)) (h1 : l ≤ h) (h2 : h ≤ m) (h3 : m ≤ xs.length) :
    Ry P N w0 env L ⟨d, .slice t x (some lo) (some hi) (some mx), ty, ps, af, gd⟩ ((s.top m).sub c l h).val := fun a w ha hw => by
  subst el eh em
  have r := q.h w hw
  have hs := r.ok
  have hlen := r.len
  have hle := hs.le
  have ee := elem_of ht.und
  have hu : P.underlying t = some (.slice (P.elem t)) := by rw [ee]; exact ht.und
  obtain ⟨ad, len, cap, ev'⟩ := s.ex
  have e3 : len = s.len ∧ cap = s.cap ∧ sliced ad l h m c = ((s.top m).sub c l h).val := by
    cases hn : s.nil with
    | true =>
      rw [Sv.val_nil hn] at ev'
      obtain ⟨rfl, rfl, rfl⟩ := by simpa using ev'
      have := hs.nil hn
      have e2 : ((s.top m).sub c l h).nil = true := hn
      rw [Sv.val_nil e2]
      have : l = 0 := by omega
      have : h = 0 := by omega
      have : m = 0 := by omega
      subst l h m
      exact ⟨by omega, by omega, by simp [sliced]⟩
    | false =>
      rw [Sv.val_some hn] at ev'
      obtain ⟨rfl, rfl, rfl⟩ := by simpa using ev'
      have e2 : ((s.top m).sub c l h).nil = false := hn
      rw [Sv.val_some e2]
      refine ⟨rfl, rfl, ?_⟩
      simp only [sliced, Sv.sub, Sv.top]
      by_cases hc : m = l
      · simp [hc]
      · have hsp := hs.sp (by omega)
        simp [hc, hsp, Addr.add_none]
  obtain ⟨e1, e2, e3⟩ := e3
  have hr := run_slice_lhm (P := P) (w := w) t ad len cap hu k k' k'' (l : Int) (h : Int) (m : Int) (by omega) (by omega) (by omega) (by omega)
  rw [ee, run_sizeOf' w ht.size] at hr
  simp only [Result.andThen, Int.toNat_natCast, e3] at hr
  simp only [execOp, ha.ev hx, ha.ev hl, ha.ev hh, ha.ev hm, ev', Option.map_some, run_sliceAt_slice (h := hu), hr, Sem.run_bind, Result.andThen, Sem.run_pure]
theorem ry_capSv {t e : TypeId} {x : Operand} {m n : Nat} [ht : SliceT P t e m] (hx : ev env x = some s.val) (hnil : s.nil = false) (hn : s.cap = n) :
    Ry P N w0 env L ⟨d, .call { callee := .builtin .cap, args := #[x], argTypes := #[t] }, ty, ps, af, gd⟩ (.int .i64 n) := fun a w ha _ => by
  subst hn
  rw [Sv.val_some hnil] at hx
  have hu : P.underlying t = some (.slice (P.elem t)) := by rw [elem_of ht.und]; exact ht.und
  have := run_cap_slice (P := P) (w := w) t ty (some ⟨s.b, s.o, s.sp⟩) s.len s.cap hu
  simp [execOp, ha.ev hx, resolve, invoke, builtin, this, Result.andThen, goInt]
class OvF (P : Program) (f : FuncId) (tS tR : outParam TypeId) : Prop where
  fn : ∃ fn, P.funcs[f]? = some fn ∧ (fn.name == "runtime.NumGoroutine") = false ∧ fn.body.isNone = true ∧ Extern.findNext fn = none ∧ Extern.find fn = some (Extern.SlicesOverlaps.overlaps #[tS, tS] #[tR])
theorem Mem.apart {w : World} {i j k : Nat} {e e' : Ent} (h : Mem w0 L w) (hi : L[i]? = some e) (hj : L[j]? = some e') (hij : i ≠ j) (hk : e.fp k) : ¬ e'.fp k := by
  obtain ⟨gi, rfl⟩ := List.getElem?_eq_some_iff.1 hi
  obtain ⟨gj, rfl⟩ := List.getElem?_eq_some_iff.1 hj
  have hd := List.pairwise_iff_getElem.1 h.dis
  rcases Nat.lt_or_gt_of_ne hij with h1 | h1
  · exact hd i j gi gj h1 k hk
  · exact fun h2 => hd j i gj gi h1 k h2 hk
theorem ry_overlaps {V D : Sv} {x y : Operand} {f : FuncId} {ts : Array TypeId} {tS tR e T : TypeId} {i j b : Nat} {cs : Array Value} (hx : ev env x = some V.val) (hy : ev env y = some D.val) [hf : OvF P f tS tR] [ht : SliceT P tS e c] (hc : 1 < c) [q : Owns L V enc c xs i] (hv : 0 < xs.length) [hh : Has L b cs T j] (hDn : D.nil = false) (hDs : D.sp = none) (hDb : D.b = b) (hcs : 0 < cs.size) (hij : i ≠ j := by decide) :
    Ry P N w0 env L ⟨d, .call { callee := .value (.func f), args := #[x, y], argTypes := ts }, ty, ps, af, gd⟩ (.bool false) := fun a w ha hw => by
  obtain ⟨r, hrow⟩ := hw.get q.h
  have hVn := r.some hv
  obtain ⟨hVs, cv, Tv, fz, hblk, hsz, hfz, hf0⟩ := hrow hVn
  obtain rfl := hf0 hc
  have hb := hw.block hh.h
  have hne : V.b ≠ b := fun e0 => hw.apart q.h hh.h hij (k := V.b) ⟨hVn, rfl⟩ e0
  subst hDb
  rw [Sv.val_some hVn, hVs] at hx
  rw [Sv.val_some hDn, hDs] at hy
  obtain ⟨fn, h1, h2, h3, h4, h5⟩ := hf.fn
  have hrun := Lib.run_overlaps_apart (P := P) w tS tR e ht.und c (fun w => run_sizeOf' w ht.size) ⟨V.b, V.o, none⟩ ⟨D.b, D.o, none⟩ V.len V.cap D.len D.cap hne Tv T cv.size cs.size (by simp [World.shape?, hblk]) (by simp [World.shape?, hb]) (by omega) (by simp [World.frozen?, hblk]) (by simp [World.frozen?, hblk])
  have hcall := run_callFunc_extern (P := P) h1 h2 h3 h4 h5 #[.slice (some ⟨V.b, V.o, none⟩) V.len V.cap, .slice (some ⟨D.b, D.o, none⟩) D.len D.cap] w
  rw [hrun] at hcall
  have e1 : a.eval (.func f) = .func (.func f) #[] #[] := rfl
  simp [execOp, ha.ev hx, ha.ev hy, resolve, e1, Deferred.ofValue, invoke, hcall, Result.andThen]
end
end Go.Eng

/- slices.Clone of routes: walked. -/
namespace Go.Proofs.YtldkgicmfbofiaaGreatDoor
open Go.Eng Go.Kb
set_option maxRecDepth 20000 in
theorem cloneR_c (w : World) (s : Sv) (ss : List Rt) (hs : Lies rcells 19 (hp w) s ss) (hpre : ss.length ≤ 1000000) : Calls Tryz.prog 22 #[s.val] w fun e w' => ∃ zz : Sv, e = .returned (zz.val) ∧ (True) ∧ Mem w [own rcells 19 zz ss] w' := by
 have ghs : Gv w s rcells 19 ss := ⟨hs⟩
 refine calls_of (args := [_]) Tryz.func22 rfl Tryz.ntmps22 rfl ?_
 change Cw _ _ _ _ _ [(0, s.val)] []
 refine cw_seq ?_
 refine cw_region ?_
 refine sq_r (ry_assign rfl) ?_
 refine sq_nil ?_
 refine ex_then ?_
 refine cw_seq ?_
 refine cw_seq ?_
 refine cw_region ?_
 refine sq_r (ry_move rfl) ?_
 refine sq_r (ry_nilS Tryz.underlying22 rfl) ?_
 refine sq_nil ?_
 refine ex_then ?_
 refine cw_cond rfl (fun h0 => ?_) (fun h0 => ?_)
 ·
  try simp only [bz0, bz1, bz2, bz3, bz4, bz5, bz6, bz7, bz8, bz9] at h0
  have e0 : ss = [] := List.length_eq_zero_iff.1 (by have := hs.ok.nil h0; have := hs.len; omega)
  refine cw_seq ?_
  refine cw_region ?_
  refine sq_r (ry_assign rfl) ?_
  refine sq_nil ?_
  refine ex_then ?_
  refine cw_ret ?_
  refine ex_pass_ret ?_
  refine ex_ret (.inl rfl) (res_1 rfl (rv_tmp rfl)) (fun w1 hw => ?_)
  exact ⟨Sv.none, rfl, trivial, by rw [e0]; exact (Keep.mem hw : Mem w [] _).nilOwn rcells 19⟩
 ·
  try simp only [bz0, bz1, bz2, bz3, bz4, bz5, bz6, bz7, bz8, bz9] at h0
  refine cw_skip ?_
  refine ex_then ?_
  refine cw_seq ?_
  refine cw_region ?_
  refine sq_build0 rcells fun b5 => ?_
  refine sq_r (ry_move rfl) ?_
  refine sq_append (s := ⟨false, b5, 0, 0, 0, none⟩) (ys := ss) rfl rfl (by decide) (fun w hw => src_rows (s := s) Tryz.underlying22 (by decide) ((inferInstance : Hd _ _ s rcells 19 ss).h w hw)) (by simp only [List.length_append, List.length_cons, List.length_nil]; omega) (by simp only [List.length_append, List.length_cons, List.length_nil]; omega) fun s7 hs7 hl7 => ?_
  refine sq_r (ry_assign rfl) ?_
  refine sq_nil ?_
  refine ex_then ?_
  refine cw_ret ?_
  refine ex_ret (.inl rfl) (res_1 rfl (rv_tmp rfl)) (fun w1 hw => ?_)
  exact ⟨s7, rfl, trivial, by simpa using hw⟩
instance cloneR_i {w0 : World} {L : List Ent} {s : Sv} {ss : List Rt} [hs : HdE w0 L rcells 19 s ss] : FnC Tryz.prog 22 w0 L [s.val] (Sv) (fun zz => zz.val) (fun zz => own rcells 19 zz ss :: L) (fun zz => True) (ss.length ≤ 1000000) := ⟨fun hp w hw => (cloneR_c w s ss (hs.h w hw) hp).mono fun e w' ⟨x, h1, h2, h3⟩ => ⟨x, h1, h2, hw.call h3⟩⟩

end Go.Proofs.YtldkgicmfbofiaaGreatDoor

/- slices.Delete and slices.Insert of routes: walked. -/
namespace Go.Proofs.YtldkgicmfbofiaaGreatDoor
open Go.Eng Go.Kb
instance : OvF Tryz.prog 67 22 4 := ⟨⟨Tryz.f67, Tryz.func67, by kernel_rfl, by kernel_rfl, by kernel_rfl, by kernel_rfl⟩⟩
set_option maxRecDepth 20000 in
theorem sdelR_c (w0 w : World) (L : List Ent) (s : Sv) (ss : List Rt) (n : Nat) (m : Nat) (hw : Mem w0 (own rcells 19 s ss :: L) w) (hpre : n ≤ m ∧ m ≤ ss.length) : Calls Tryz.prog 43 #[s.val, .int .i64 (n : Nat), .int .i64 (m : Nat)] w fun e w' => ∃ zz : Sv, e = .returned (zz.val) ∧ (True) ∧ Mem w0 (own rcells 19 zz (ss.take n ++ ss.drop m) :: L) w' := by
 obtain ⟨hp1, hp2⟩ := hpre
 refine calls_in (args := [_, _, _]) Tryz.func43 rfl Tryz.ntmps43 rfl hw ?_
 change Cw _ _ _ _ _ [(0, s.val), (1, .int .i64 (n : Nat)), (2, .int .i64 (m : Nat))] (own rcells 19 s ss :: L)
 refine cw_seq ?_
 refine cw_region ?_
 refine sq_r (ry_assign rfl) ?_
 refine sq_nil ?_
 refine ex_then ?_
 refine cw_seq ?_
 refine cw_region ?_
 refine sq_r (ry_move rfl) ?_
 refine sq_r (ry_move rfl) ?_
 refine sq_r (ry_move rfl) ?_
 refine sq_r (ry_move rfl) ?_
 refine sq_r (ry_lenH rfl) ?_
 refine sq_r (ry_subH3 (l := n) (h := m) (m := ss.length) rfl rfl rfl rfl rfl rfl rfl (by omega) (by omega) (by omega)) ?_
 refine sq_nil ?_
 refine ex_then ?_
 refine cw_seq ?_
 refine cw_seq ?_
 refine cw_region ?_
 refine sq_r (ry_move rfl) ?_
 refine sq_r (ry_move rfl) ?_
 refine sq_r (ry_int rfl rfl rfl) ?_
 refine sq_nil ?_
 refine ex_then ?_
 refine cw_cond rfl (fun h0 => ?_) (fun h0 => ?_)
 ·
  try simp only [bz0, bz1, bz2, bz3, bz4, bz5, bz6, bz7, bz8, bz9] at h0
  obtain rfl : n = m := by omega
  refine cw_seq ?_
  refine cw_region ?_
  refine sq_r (ry_move rfl) ?_
  refine sq_r (ry_assign rfl) ?_
  refine sq_nil ?_
  refine ex_then ?_
  refine cw_ret ?_
  refine ex_pass_ret ?_
  refine ex_ret (.inl rfl) (res_1 rfl (rv_tmp rfl)) (fun w1 hw => ?_)
  exact ⟨s, rfl, trivial, by rw [List.take_append_drop]; exact hw⟩
 ·
  try simp only [bz0, bz1, bz2, bz3, bz4, bz5, bz6, bz7, bz8, bz9] at h0
  refine cw_skip ?_
  refine ex_then ?_
  refine cw_seq ?_
  refine cw_bd s fun hbd0 => ?_
  have hlt : n < m := by omega
  refine cw_open (s := s) inferInstance (by decide) (by omega) fun pre mid T hpl hcap hnil hsp hok hsl => ?_
  have hle := hok.le
  have hbd := hok.bd
  have hlv : (flatR rcells (ss.drop m)).length = (ss.length - m) * 19 := by rw [flatR_length, List.length_drop]
  have hlu : (flatR rcells (ss.take n)).length = n * 19 := by rw [flatR_length, List.length_take]; congr 1; omega
  have hlx : (flatR rcells ss).length = ss.length * 19 := flatR_length ss
  have exs : flatR rcells ss = flatR rcells (ss.take m) ++ flatR rcells (ss.drop m) := by rw [← flatR_app, List.take_append_drop]
  have hlm : (flatR rcells (ss.take m)).length = m * 19 := by rw [flatR_length, List.length_take]; congr 1; omega
  obtain ⟨X, hX⟩ : ∃ X, flatR rcells ss = flatR rcells (ss.take n) ++ X := ⟨flatR rcells (ss.drop n), by rw [← flatR_app, List.take_append_drop]⟩
  have hXl : n * 19 + X.length = ss.length * 19 := by rw [← hlx, hX, List.length_append, hlu]
  obtain ⟨r1, hr1⟩ : ∃ r : Sv, r = (⟨false, s.b, s.o, n + (ss.length - m), s.cap, none⟩ : Sv) := ⟨_, rfl⟩
  refine cw_region ?_
  refine sq_r (ry_move rfl) ?_
  refine sq_r (ry_lenS rfl hok hsl) ?_
  refine sq_r (ry_assign rfl) ?_
  refine sq_nil ?_
  refine ex_then ?_
  refine cw_seq ?_
  refine cw_tail 6 [] (by kernel_rfl) (by kernel_rfl) ?_
  simp only [List.take_succ_cons, List.take_zero]
  refine qt_r (ry_move rfl) ?_
  refine qt_r (ry_move rfl) ?_
  have rg22 : Rg 0 n ss.length := ⟨by omega⟩
  refine qt_r (ry_subS_hi (h := n) rfl rfl rfl hok (by omega)) ?_
  refine qt_r (ry_move rfl) ?_
  refine qt_r (ry_move rfl) ?_
  have rg25 : Rg m ss.length ss.length := ⟨by omega⟩
  refine qt_r (ry_subS_lo (l := m) (n := ss.length) rfl rfl rfl hok hsl (by omega)) ?_
  refine qt_end ?_
  refine fr_nil ?_
  simp only [List.drop_succ_cons, List.drop_zero]
  refine sq_appendB (D := s.sub 19 0 n) (S := s.sub 19 m ss.length) (b := s.b) (o := s.o + n * 19) (n := ss.length - m) (vs := flatR rcells (ss.drop m)) (R := r1) (cs' := (pre ++ (flatR rcells (ss.take n) ++ (flatR rcells (ss.drop m) ++ (X ++ mid).drop (flatR rcells (ss.drop m)).length))).toArray) rfl rfl hnil hsp rfl (by rw [Sv.sub_0]; rfl) hnil hsp rfl rfl hlv (by show n - 0 + _ ≤ s.cap - 0; omega) (fun w hw j v hj => by
   have hjl := (List.getElem?_eq_some_iff.1 hj).1
   rw [hlv] at hjl
   rw [Sv.sub_o (by omega)]
   show w.cell? ⟨s.b, _, none⟩ = _
   rw [hw.cell (inferInstance : Has _ s.b _ _ _).h, List.getElem?_toArray, List.getElem?_append_right (by omega), List.getElem?_append_left (by omega), exs, List.getElem?_append_right (by omega), ← hj]
   congr 1; omega) (flatR_one _) (by simp only [List.size_toArray, List.length_append]; omega) (by rw [hX, List.append_assoc, ← List.append_assoc pre, over_cat (by rw [List.length_append]; omega), List.append_assoc]) (by rw [hr1, Sv.sub_0]; rfl) ?_
  refine sq_r (ry_assign rfl) ?_
  refine sq_nil ?_
  refine ex_then ?_
  refine cw_seq ?_
  refine cw_region ?_
  refine sq_r (ry_move rfl) ?_
  refine sq_r (ry_move rfl) ?_
  refine sq_r (ry_lenS (n := n + (ss.length - m)) (s := r1) rfl (by rw [hr1]; exact ⟨(fun h => by cases h), by simp only; omega, by simp only; omega, fun _ => rfl⟩) (by rw [hr1])) ?_
  refine sq_r (ry_move rfl) ?_
  refine sq_r (ry_subS (s := r1) (l := n + (ss.length - m)) (h := ss.length) rfl rfl rfl rfl rfl (by rw [hr1]; exact ⟨(fun h => by cases h), by simp only; omega, by simp only; omega, fun _ => rfl⟩) (by omega) (by rw [hr1]; simp only; omega)) ?_
  refine sq_clearB (D := r1.sub 19 (n + (ss.length - m)) ss.length) (b := s.b) (o := s.o + (n + (ss.length - m)) * 19) (n := m - n) (z := .agg (rcells zroute)) rfl (by rw [hr1]; rfl) (by rw [hr1]; rfl) (by rw [hr1]; rfl) (by rw [hr1, Sv.sub_o (by show _ < s.cap; omega)]) (by show ss.length - (n + (ss.length - m)) = _; omega) (by omega) (show (rcells zroute).all (·.oneCell') = true from (inferInstance : Enc rcells 19).one zroute) (by simp only [List.size_toArray, List.length_append, List.length_drop]; omega) fun Z hZ => ?_
  refine sq_nil ?_
  refine ex_then ?_
  refine cw_seq ?_
  refine cw_region ?_
  refine sq_r (ry_move rfl) ?_
  refine sq_r (ry_assign rfl) ?_
  refine sq_nil ?_
  refine ex_then ?_
  refine cw_ret ?_
  refine ex_ret (.inl rfl) (res_1 rfl (rv_tmp rfl)) (fun w1 hw => ?_)
  refine ⟨r1, rfl, trivial, ?_⟩
  rw [show (pre ++ (flatR rcells (ss.take n) ++ (flatR rcells (ss.drop m) ++ (X ++ mid).drop (flatR rcells (ss.drop m)).length))) = (pre ++ (flatR rcells (ss.take n) ++ flatR rcells (ss.drop m))) ++ (X ++ mid).drop (flatR rcells (ss.drop m)).length from by simp only [List.append_assoc], over_cat (A := pre ++ (flatR rcells (ss.take n) ++ flatR rcells (ss.drop m))) (by simp only [List.length_append]; omega), ← flatR_app, List.append_assoc pre] at hw
  have hw2 := own_shut (enc := rcells) (i := 0) (xs := ss.take n ++ ss.drop m) (pre := pre) hw rfl r1 (by rw [hr1]; exact ⟨(fun h => by cases h), by simp only; omega, by simp only; omega, fun _ => rfl⟩) (by rw [hr1]) (by rw [hr1]) (by rw [hr1]) (by rw [hr1]; exact hpl.symm) (by rw [hr1]; simp only [List.length_append, List.length_take, List.length_drop]; omega) (by rw [hr1]; simp only [List.length_append, List.length_take, List.length_drop]; omega)
  exact hw2
instance sdelR_i {w0 : World} {L R : List Ent} {i : Nat} {s : Sv} {ss : List Rt} {n : Nat} {m : Nat} [q : Owns L s rcells 19 ss i] [d : DelI L i R] : FnC Tryz.prog 43 w0 L [s.val, .int .i64 (n : Nat), .int .i64 (m : Nat)] (Sv) (fun zz => zz.val) (fun zz => own rcells 19 zz (ss.take n ++ ss.drop m) :: R) (fun zz => True) (n ≤ m ∧ m ≤ ss.length) := ⟨fun hp w hw => sdelR_c w0 w R s ss n m (mem_one q.h d.h hw) hp⟩
set_option maxRecDepth 20000 in
theorem sinsR_c (w0 w : World) (L : List Ent) (s : Sv) (ss : List Rt) (v : Sv) (r : Rt) (n : Nat) (hw : Mem w0 (own rcells 19 s ss :: own rcells 19 v [r] :: L) w) (hpre : n ≤ ss.length ∧ ss.length ≤ 1000000) : Calls Tryz.prog 44 #[s.val, .int .i64 (n : Nat), v.val] w fun e w' => ∃ zz : Sv, e = .returned (zz.val) ∧ (True) ∧ Mem w0 (own rcells 19 zz (ss.take n ++ r :: ss.drop n) :: L) w' := by
 obtain ⟨hp1, hp2⟩ := hpre
 refine calls_in (args := [_, _, _]) Tryz.func44 rfl Tryz.ntmps44 rfl hw ?_
 change Cw _ _ _ _ _ [(0, s.val), (1, .int .i64 (n : Nat)), (2, v.val)] (own rcells 19 s ss :: own rcells 19 v [r] :: L)
 refine cw_seq ?_
 refine cw_region ?_
 refine sq_r (ry_assign rfl) ?_
 refine sq_nil ?_
 refine ex_then ?_
 refine cw_seq ?_
 refine cw_region ?_
 refine sq_r (ry_move rfl) ?_
 refine sq_r (ry_move rfl) ?_
 have rg12 : Rg n ss.length ss.length := ⟨by omega⟩
 refine sq_r (ry_subH_lo rfl rfl n rfl rg12.h.1) ?_
 refine sq_nil ?_
 refine ex_then ?_
 refine cw_seq ?_
 refine cw_region ?_
 refine sq_r (ry_move rfl) ?_
 refine sq_r (Ry.to (v' := .int .i64 (1 : Nat)) (ry_lenH rfl) rfl) ?_
 refine sq_r (ry_assign rfl) ?_
 refine sq_nil ?_
 refine ex_then ?_
 refine cw_seq ?_
 refine cw_seq ?_
 refine cw_region ?_
 refine sq_r (ry_move rfl) ?_
 refine sq_r (ry_int rfl rfl rfl) ?_
 refine sq_nil ?_
 refine ex_then ?_
 refine cw_cond rfl (fun h0 => ?_) (fun h0 => ?_)
 ·
  try simp only [bz0, bz1, bz2, bz3, bz4, bz5, bz6, bz7, bz8, bz9] at h0
  exfalso; omega
 ·
  try simp only [bz0, bz1, bz2, bz3, bz4, bz5, bz6, bz7, bz8, bz9] at h0
  refine cw_skip ?_
  refine ex_then ?_
  refine cw_seq ?_
  refine cw_region ?_
  refine sq_r (ry_move rfl) ?_
  refine sq_r (ry_lenH rfl) ?_
  refine sq_r (ry_assign rfl) ?_
  refine sq_nil ?_
  refine ex_then ?_
  refine cw_seq ?_
  refine cw_seq ?_
  refine cw_region ?_
  refine sq_r (ry_move rfl) ?_
  refine sq_r (ry_move rfl) ?_
  refine sq_r (ry_int rfl rfl rfl) ?_
  refine sq_nil ?_
  refine ex_then ?_
  refine cw_cond rfl (fun h1 => ?_) (fun h1 => ?_)
  ·
   try simp only [bz0, bz1, bz2, bz3, bz4, bz5, bz6, bz7, bz8, bz9] at h1
   refine cw_seq ?_
   refine cw_region ?_
   refine sq_r (ry_move rfl) ?_
   refine sq_r (ry_move rfl) ?_
   refine sq_append (s := s) (ys := [r]) rfl rfl (by decide) (fun w hw => src_rows (s := v) Tryz.underlying22 (by decide) ((inferInstance : Hd _ _ v rcells 19 [r]).h w hw)) (by simp only [List.length_cons, List.length_nil]; omega) (by simp only [List.length_cons, List.length_nil]; omega) fun s25 hs25 hl25 => ?_
   refine sq_r (ry_assign rfl) ?_
   refine sq_nil ?_
   refine ex_then ?_
   refine cw_ret ?_
   refine ex_pass_ret ?_
   refine ex_ret (.inl rfl) (res_1 rfl (rv_tmp rfl)) (fun w1 hw => ?_)
   exact ⟨s25, rfl, trivial, by rw [List.take_of_length_le (by omega), List.drop_of_length_le (by omega)]; exact Keep.mem hw⟩
  ·
   try simp only [bz0, bz1, bz2, bz3, bz4, bz5, bz6, bz7, bz8, bz9] at h1
   refine cw_skip ?_
   refine ex_then ?_
   refine cw_seq ?_
   refine cw_seq ?_
   have hlt : n < ss.length := by omega
   refine cw_owned (s := v) (enc := rcells) inferInstance (by simp) fun hvn hvs hvok hvl => ?_
   have hvl1 : v.len = 1 := hvl
   refine cw_open (s := s) inferInstance (by decide) (by omega) fun pre mid T hpl hcap hnil hsp hok hsl => ?_
   have hle := hok.le
   have hbd := hok.bd
   obtain ⟨x, hx⟩ := get_some (xs := ss) (i := n) (by omega)
   have hA : (flatR rcells (ss.take n)).length = n * 19 := by rw [flatR_length, List.length_take]; congr 1; omega
   have hB : (flatR rcells (ss.drop n)).length = (ss.length - n) * 19 := by rw [flatR_length, List.length_drop]
   have hr0 : (flatR rcells [r]).length = 19 := by rw [flatR_length]; rfl
   have he0 : (flatR rcells [x]).length = 19 := by rw [flatR_length]; rfl
   have hss : flatR rcells ss = (flatR rcells (ss.take n)) ++ (flatR rcells (ss.drop n)) := by rw [← flatR_app, List.take_append_drop]
   have hBe : (flatR rcells (ss.drop n)) = (flatR rcells [x]) ++ (flatR rcells (ss.drop (n + 1))) := by rw [← flatR_app, List.drop_eq_getElem_cons hlt, show ss[n] = x from (List.getElem?_eq_some_iff.1 hx).2]; rfl
   have hlx : (flatR rcells ss).length = ss.length * 19 := flatR_length ss
   have hfin : flatR rcells (ss.take n ++ r :: ss.drop n) = (flatR rcells (ss.take n)) ++ ((flatR rcells [r]) ++ (flatR rcells (ss.drop n))) := by rw [flatR_app, ← flatR_app [r]]; rfl
   have hlf : (ss.take n ++ r :: ss.drop n).length = ss.length + 1 := by simp only [List.length_append, List.length_take, List.length_cons, List.length_drop]; omega
   have hcs : ∀ (w1 : World) L', Mem w0 (blk s.b (pre ++ (flatR rcells ss ++ mid)).toArray T :: L') w1 → ∀ j u, (flatR rcells ss)[j]? = some u → w1.cell? ⟨s.b, s.o + j, none⟩ = some u := fun w1 L' hw1 j u hj => blk_cells hw1 hpl hj
   refine cw_region ?_
   refine sq_r (ry_move rfl) ?_
   refine sq_r (ry_move rfl) ?_
   refine sq_r (ry_add rfl rfl (by omega)) ?_
   refine sq_r (ry_move rfl) ?_
   refine sq_r (ry_capSv (n := s.cap) rfl hnil rfl) ?_
   refine sq_r (ry_int rfl rfl rfl) ?_
   refine sq_nil ?_
   refine ex_then ?_
   refine cw_cond rfl (fun h2 => ?_) (fun h2 => ?_)
   ·
    try simp only [bz0, bz1, bz2, bz3, bz4, bz5, bz6, bz7, bz8, bz9] at h2
    refine cw_seq ?_
    refine cw_region ?_
    refine sq_r (ry_move rfl) ?_
    refine sq_r (ry_move rfl) ?_
    refine sq_r (ry_subS_hi (h := n) rfl rfl rfl hok (by omega)) ?_
    refine sq_r (ry_move rfl) ?_
    refine sq_r (ry_move rfl) ?_
    refine sq_r (ry_add rfl rfl (by omega)) ?_
    refine sq_r (ry_move rfl) ?_
    refine sq_r (ry_sub rfl rfl (by omega)) ?_
    refine sq_appendZ (D := s.sub 19 0 n) (k := ss.length + 1 - n) (p := n) (m := ss.length + 1) (olds := (flatR rcells (ss.take n))) rfl (by omega) rfl rfl (by omega) (by omega) hnil hsp (by decide) Tryz.underlying3 hA (fun w hw j u hj => by
     have hjl := (List.getElem?_eq_some_iff.1 hj).1
     rw [Sv.sub_0]
     exact hcs w _ hw j u (by rw [hss, List.getElem?_append_left hjl]; exact hj)) (by show s.cap - 0 < n - 0 + _; omega) (by show (n - 0 + _) * _ ≤ _; omega) (by show n - 0 + _ ≤ _; omega) fun b40 C40 Z40 hC40 hZ40 => ?_
    refine sq_r (ry_assign rfl) ?_
    refine sq_nil ?_
    refine ex_then ?_
    refine cw_seq ?_
    refine cw_region ?_
    refine sq_r (ry_move rfl) ?_
    refine sq_r (ry_move rfl) ?_
    refine sq_r (ry_subS_lo (s := (⟨false, b40, 0, ss.length + 1, C40, none⟩ : Sv)) (l := n) (n := ss.length + 1) rfl rfl rfl ⟨(fun h => by cases h), by simp only; omega, by simp only; omega, fun _ => rfl⟩ rfl (by omega)) ?_
    refine sq_r (ry_move rfl) ?_
    refine sq_copyB (D := (⟨false, b40, 0, ss.length + 1, C40, none⟩ : Sv).sub 19 n (ss.length + 1)) (S := v) (b := b40) (o := n * 19) (n := 1) (vs := (flatR rcells [r])) (cs' := ((flatR rcells (ss.take n)) ++ ((flatR rcells [r]) ++ Z40.drop 19)).toArray) rfl rfl rfl rfl rfl (by rw [Sv.sub_o (by show n < C40; omega)]; exact Nat.zero_add _) hvn hvs (by rw [hvl1]; exact min_l (b := ss.length + 1 - n) (by omega)) (by rw [hr0]) (fun w hw j u hj => own_cells (enc := rcells) (xs := [r]) (by decide) inferInstance hw hj) (flatR_one _) (by simp only [List.size_toArray, List.length_append]; omega) (by rw [over_cat (A := (flatR rcells (ss.take n))) hA.symm, hr0]) ?_
    refine sq_nil ?_
    refine ex_then ?_
    refine cw_seq ?_
    refine cw_tail 8 [] (by kernel_rfl) (by kernel_rfl) ?_
    simp only [List.take_succ_cons, List.take_zero]
    refine qt_r (ry_move rfl) ?_
    refine qt_r (ry_move rfl) ?_
    refine qt_r (ry_move rfl) ?_
    refine qt_r (ry_add rfl rfl (by omega)) ?_
    refine qt_r (ry_subS_lo (s := (⟨false, b40, 0, ss.length + 1, C40, none⟩ : Sv)) (l := n + 1) (n := ss.length + 1) rfl rfl rfl ⟨(fun h => by cases h), by simp only; omega, by simp only; omega, fun _ => rfl⟩ rfl (by omega)) ?_
    refine qt_r (ry_move rfl) ?_
    refine qt_r (ry_move rfl) ?_
    refine qt_r (ry_subS_lo (l := n) (n := ss.length) rfl rfl rfl hok hsl (by omega)) ?_
    refine qt_end ?_
    refine fr_nil ?_
    simp only [List.drop_succ_cons, List.drop_zero]
    refine sq_copyB (D := (⟨false, b40, 0, ss.length + 1, C40, none⟩ : Sv).sub 19 (n + 1) (ss.length + 1)) (S := s.sub 19 n ss.length) (b := b40) (o := (n + 1) * 19) (n := ss.length - n) (vs := (flatR rcells (ss.drop n))) (cs' := (((flatR rcells (ss.take n)) ++ (flatR rcells [r])) ++ ((flatR rcells (ss.drop n)) ++ (Z40.drop 19).drop (flatR rcells (ss.drop n)).length)).toArray) rfl rfl rfl rfl rfl (by rw [Sv.sub_o (by show n + 1 < C40; omega)]; exact Nat.zero_add _) hnil hsp (min_l (a := ss.length - n) (b := ss.length + 1 - (n + 1)) (by omega)) hB (fun w hw j u hj => by
     rw [Sv.sub_o (by omega), Nat.add_assoc]
     exact hcs w _ (hw.sub (by first | exact List.Sublist.refl _ | exact List.sublist_cons_self _ _)) (n * 19 + j) u (by rw [hss, List.getElem?_append_right (by omega), hA, Nat.add_sub_cancel_left]; exact hj)) (flatR_one _) (by simp only [List.size_toArray, List.length_append, List.length_drop]; omega) (by rw [← List.append_assoc, over_cat (A := (flatR rcells (ss.take n)) ++ (flatR rcells [r])) (by rw [List.length_append, hA, hr0]; omega)]) ?_
    refine sq_nil ?_
    refine ex_then ?_
    refine cw_seq ?_
    refine cw_region ?_
    refine sq_r (ry_move rfl) ?_
    refine sq_r (ry_assign rfl) ?_
    refine sq_nil ?_
    refine ex_then ?_
    refine cw_ret ?_
    refine ex_pass_ret ?_
    refine ex_ret (.inl rfl) (res_1 rfl (rv_tmp rfl)) (fun w1 hw => ?_)
    refine ⟨(⟨false, b40, 0, ss.length + 1, C40, none⟩ : Sv), rfl, trivial, ?_⟩
    rw [show ((flatR rcells (ss.take n)) ++ (flatR rcells [r])) ++ ((flatR rcells (ss.drop n)) ++ (Z40.drop 19).drop (flatR rcells (ss.drop n)).length) = [] ++ (flatR rcells (ss.take n ++ r :: ss.drop n) ++ (Z40.drop 19).drop (flatR rcells (ss.drop n)).length) from by rw [hfin]; simp only [List.append_assoc, List.nil_append]] at hw
    have hw2 := own_shut (enc := rcells) (i := 0) (xs := ss.take n ++ r :: ss.drop n) (pre := []) (mid := (Z40.drop 19).drop (flatR rcells (ss.drop n)).length) hw rfl (⟨false, b40, 0, ss.length + 1, C40, none⟩ : Sv) ⟨(fun h => by cases h), by simp only; omega, by simp only; omega, fun _ => rfl⟩ rfl rfl rfl rfl (by rw [hlf]) (by rw [hlf]; simp only [List.length_nil, List.length_drop]; omega)
    rw [List.set_cons_zero] at hw2
    exact Keep.mem hw2
   ·
    try simp only [bz0, bz1, bz2, bz3, bz4, bz5, bz6, bz7, bz8, bz9] at h2
    obtain ⟨s1, hs1⟩ : ∃ z : Sv, z = ⟨false, s.b, s.o, ss.length + 1, s.cap, none⟩ := ⟨_, rfl⟩
    refine cw_skip ?_
    refine ex_then ?_
    refine cw_seq ?_
    refine cw_region ?_
    refine sq_r (ry_move rfl) ?_
    refine sq_r (ry_move rfl) ?_
    refine sq_r (ry_move rfl) ?_
    refine sq_r (ry_add rfl rfl (by omega)) ?_
    refine sq_r (Ry.to (v' := s1.val) (ry_subS_hi (h := ss.length + 1) rfl rfl rfl hok (by omega)) (by rw [hs1, Sv.sub_eq hnil hsp])) ?_
    refine sq_r (ry_assign rfl) ?_
    refine sq_nil ?_
    refine ex_then ?_
    refine cw_seq ?_
    refine cw_seq ?_
    refine cw_region ?_
    refine sq_r (ry_move rfl) ?_
    refine sq_r (ry_move rfl) ?_
    refine sq_r (ry_move rfl) ?_
    refine sq_r (ry_move rfl) ?_
    refine sq_r (ry_add rfl rfl (by omega)) ?_
    refine sq_r (ry_subS_lo (s := s1) (l := n + 1) (n := ss.length + 1) rfl rfl rfl (by rw [hs1]; exact ⟨(fun h => by cases h), by simp only; omega, by simp only; omega, fun _ => rfl⟩) (by rw [hs1]) (by omega)) ?_
    refine sq_r (ry_overlaps (V := v) (D := s1.sub 19 (n + 1) (ss.length + 1)) (b := s.b) (xs := [r]) rfl rfl (by decide) (by simp) (by rw [hs1]; rfl) (by rw [hs1]; rfl) (by rw [hs1]; rfl) (by simp only [List.size_toArray, List.length_append]; omega)) ?_
    refine sq_r (ry_not rfl) ?_
    refine sq_nil ?_
    refine ex_then ?_
    refine cw_cond rfl (fun h3 => ?_) (fun h3 => ?_)
    ·
     try simp only [bz0, bz1, bz2, bz3, bz4, bz5, bz6, bz7, bz8, bz9] at h3
     refine cw_seq ?_
     refine cw_tail 8 [] (by kernel_rfl) (by kernel_rfl) ?_
     simp only [List.take_succ_cons, List.take_zero]
     refine qt_r (ry_move rfl) ?_
     refine qt_r (ry_move rfl) ?_
     refine qt_r (ry_move rfl) ?_
     refine qt_r (ry_add rfl rfl (by omega)) ?_
     refine qt_r (ry_subS_lo (s := s1) (l := n + 1) (n := ss.length + 1) rfl rfl rfl (by rw [hs1]; exact ⟨(fun h => by cases h), by simp only; omega, by simp only; omega, fun _ => rfl⟩) (by rw [hs1]) (by omega)) ?_
     refine qt_r (ry_move rfl) ?_
     refine qt_r (ry_move rfl) ?_
     refine qt_r (ry_subS_lo (s := s1) (l := n) (n := ss.length + 1) rfl rfl rfl (by rw [hs1]; exact ⟨(fun h => by cases h), by simp only; omega, by simp only; omega, fun _ => rfl⟩) (by rw [hs1]) (by omega)) ?_
     refine qt_end ?_
     refine fr_nil ?_
     simp only [List.drop_succ_cons, List.drop_zero]
     refine sq_copyB (D := s1.sub 19 (n + 1) (ss.length + 1)) (S := s1.sub 19 n (ss.length + 1)) (b := s.b) (o := s.o + (n + 1) * 19) (n := ss.length - n) (vs := (flatR rcells (ss.drop n))) (cs' := (pre ++ ((flatR rcells (ss.take n)) ++ ((flatR rcells [x]) ++ ((flatR rcells (ss.drop n)) ++ ((flatR rcells (ss.drop (n + 1))) ++ mid).drop (flatR rcells (ss.drop n)).length)))).toArray) rfl rfl (by rw [hs1]; rfl) (by rw [hs1]; rfl) (by rw [hs1]; rfl) (by rw [hs1, Sv.sub_o (by show _ < s.cap; omega)]) (by rw [hs1]; rfl) (by rw [hs1]; rfl) (by rw [show ss.length - n = ss.length + 1 - (n + 1) from by omega]; exact min_r (a := ss.length + 1 - n) (by omega)) hB (fun w hw j u hj => by
      rw [hs1, Sv.sub_o (by show _ < s.cap; omega), Nat.add_assoc]
      exact hcs w _ hw (n * 19 + j) u (by rw [hss, List.getElem?_append_right (by omega), hA, Nat.add_sub_cancel_left]; exact hj)) (flatR_one _) (by simp only [List.size_toArray, List.length_append]; omega) (by
      rw [hss, show pre ++ (((flatR rcells (ss.take n)) ++ (flatR rcells (ss.drop n))) ++ mid) = (pre ++ ((flatR rcells (ss.take n)) ++ (flatR rcells [x]))) ++ ((flatR rcells (ss.drop (n + 1))) ++ mid) from by rw [hBe]; simp only [List.append_assoc], over_cat (A := pre ++ ((flatR rcells (ss.take n)) ++ (flatR rcells [x]))) (by simp only [List.length_append]; omega)]; simp only [List.append_assoc]) ?_
     refine sq_nil ?_
     refine ex_then ?_
     refine cw_seq ?_
     refine cw_region ?_
     refine sq_r (ry_move rfl) ?_
     refine sq_r (ry_move rfl) ?_
     refine sq_r (ry_subS_lo (s := s1) (l := n) (n := ss.length + 1) rfl rfl rfl (by rw [hs1]; exact ⟨(fun h => by cases h), by simp only; omega, by simp only; omega, fun _ => rfl⟩) (by rw [hs1]) (by omega)) ?_
     refine sq_r (ry_move rfl) ?_
     refine sq_copyB (D := s1.sub 19 n (ss.length + 1)) (S := v) (b := s.b) (o := s.o + n * 19) (n := 1) (vs := (flatR rcells [r])) (cs' := (pre ++ ((flatR rcells (ss.take n)) ++ ((flatR rcells [r]) ++ ((flatR rcells (ss.drop n)) ++ ((flatR rcells (ss.drop (n + 1))) ++ mid).drop (flatR rcells (ss.drop n)).length)))).toArray) rfl rfl (by rw [hs1]; rfl) (by rw [hs1]; rfl) (by rw [hs1]; rfl) (by rw [hs1, Sv.sub_o (by show _ < s.cap; omega)]) hvn hvs (by rw [hvl1]; exact min_l (b := ss.length + 1 - n) (by omega)) (by rw [hr0]) (fun w hw j u hj => own_cells (enc := rcells) (xs := [r]) (by decide) inferInstance hw hj) (flatR_one _) (by simp only [List.size_toArray, List.length_append]; omega) (by
      rw [← List.append_assoc pre, over_cat (A := pre ++ (flatR rcells (ss.take n))) (by rw [List.length_append]; omega), hr0, ← he0, List.drop_left, List.append_assoc]) ?_
     refine sq_nil ?_
     refine ex_then ?_
     refine cw_seq ?_
     refine cw_region ?_
     refine sq_r (ry_move rfl) ?_
     refine sq_r (ry_assign rfl) ?_
     refine sq_nil ?_
     refine ex_then ?_
     refine cw_ret ?_
     refine ex_pass_ret ?_
     refine ex_ret (.inl rfl) (res_1 rfl (rv_tmp rfl)) (fun w1 hw => ?_)
     refine ⟨s1, rfl, trivial, ?_⟩
     rw [show pre ++ ((flatR rcells (ss.take n)) ++ ((flatR rcells [r]) ++ ((flatR rcells (ss.drop n)) ++ ((flatR rcells (ss.drop (n + 1))) ++ mid).drop (flatR rcells (ss.drop n)).length))) = pre ++ (flatR rcells (ss.take n ++ r :: ss.drop n) ++ ((flatR rcells (ss.drop (n + 1))) ++ mid).drop (flatR rcells (ss.drop n)).length) from by rw [hfin]; simp only [List.append_assoc]] at hw
     have hw2 := own_shut (enc := rcells) (i := 0) (xs := ss.take n ++ r :: ss.drop n) (pre := pre) (mid := ((flatR rcells (ss.drop (n + 1))) ++ mid).drop (flatR rcells (ss.drop n)).length) hw rfl s1 (by rw [hs1]; exact ⟨(fun h => by cases h), by simp only; omega, by simp only; omega, fun _ => rfl⟩) (by rw [hs1]) (by rw [hs1]) (by rw [hs1]) (by rw [hs1]; exact hpl.symm) (by rw [hs1, hlf]) (by rw [hs1, hlf]; have := congrArg List.length hBe; simp only [List.length_append, List.length_drop] at this ⊢; omega)
     rw [List.set_cons_zero] at hw2
     exact Keep.mem hw2
    ·
     exfalso; simp at h3
instance sinsR_i {w0 : World} {L R1 L2 : List Ent} {i j : Nat} {s : Sv} {ss : List Rt} {v : Sv} {r : Rt} {n : Nat} [h : Owns L s rcells 19 ss i] [d1 : DelI L i R1] [q : Owns R1 v rcells 19 [r] j] [d2 : DelI R1 j L2] : FnC Tryz.prog 44 w0 L [s.val, .int .i64 (n : Nat), v.val] (Sv) (fun zz => zz.val) (fun zz => own rcells 19 zz (ss.take n ++ r :: ss.drop n) :: L2) (fun zz => True) (n ≤ ss.length ∧ ss.length ≤ 1000000) := ⟨fun hp w hw => sinsR_c w0 w L2 s ss v r n (mem_two h.h d1.h q.h d2.h hw) hp⟩

end Go.Proofs.YtldkgicmfbofiaaGreatDoor

