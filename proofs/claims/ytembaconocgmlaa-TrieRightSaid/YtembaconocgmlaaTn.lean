/- A trie's nodes, and the ways to them. No program in sight. -/
import Derived.Test.YtembaconocgmlaaRt
set_option linter.unusedSimpArgs false
set_option linter.unusedVariables false
namespace Go.Kb

/-- A slot: a length, one more than that, and where it leads. -/
structure Slt where
  len : Int
  hop : UInt16
  deriving DecidableEq
def Slt.no : Slt := ⟨0, 0⟩
/-- A node. -/
structure Nd where
  slots : List Slt
  nexts : List Int
  hs : slots.length = 16
  hn : nexts.length = 16
  deriving DecidableEq
def Nd.sl (n : Nd) (b : Nat) : Slt := n.slots.getD b Slt.no
def Nd.nx (n : Nd) (b : Nat) : Int := n.nexts.getD b 0
def Nd.mk' (f : Nat → Slt) (g : Nat → Int) : Nd := ⟨(List.range 16).map f, (List.range 16).map g, by simp, by simp⟩
def Nd.zero : Nd := Nd.mk' (fun _ => Slt.no) (fun _ => 0)
def Nd.setSl (n : Nd) (b : Nat) (s : Slt) : Nd := ⟨n.slots.set b s, n.nexts, by simp [n.hs], n.hn⟩
def Nd.setNx (n : Nd) (b : Nat) (x : Int) : Nd := ⟨n.slots, n.nexts.set b x, n.hs, by simp [n.hn]⟩
theorem Nd.sl_mk' {f : Nat → Slt} {g : Nat → Int} {b : Nat} (h : b < 16) : (Nd.mk' f g).sl b = f b := by simp [Nd.sl, Nd.mk', h]
theorem Nd.nx_mk' {f : Nat → Slt} {g : Nat → Int} {b : Nat} (h : b < 16) : (Nd.mk' f g).nx b = g b := by simp [Nd.nx, Nd.mk', h]
theorem Nd.sl_out {n : Nd} {b : Nat} (h : 16 ≤ b) : n.sl b = Slt.no := by
  have := n.hs
  rw [Nd.sl, List.getD_eq_getElem?_getD, List.getElem?_eq_none (by omega)]; rfl
theorem Nd.nx_out {n : Nd} {b : Nat} (h : 16 ≤ b) : n.nx b = 0 := by
  have := n.hn
  rw [Nd.nx, List.getD_eq_getElem?_getD, List.getElem?_eq_none (by omega)]; rfl
theorem Nd.sl_zero (b : Nat) : Nd.zero.sl b = Slt.no := by
  rcases Nat.lt_or_ge b 16 with h | h
  · exact Nd.sl_mk' h
  · exact Nd.sl_out h
theorem Nd.nx_zero (b : Nat) : Nd.zero.nx b = 0 := by
  rcases Nat.lt_or_ge b 16 with h | h
  · exact Nd.nx_mk' h
  · exact Nd.nx_out h
theorem Nd.sl_set {n : Nd} {b c : Nat} {s : Slt} (h : b < 16) : (n.setSl b s).sl c = if b = c then s else n.sl c := by
  have := n.hs
  simp only [Nd.sl, Nd.setSl, List.getD_eq_getElem?_getD, List.getElem?_set]
  split
  · rename_i e; subst e; rw [if_pos (by omega)]; rfl
  · rfl
theorem Nd.nx_set {n : Nd} {b c : Nat} {x : Int} (h : b < 16) : (n.setNx b x).nx c = if b = c then x else n.nx c := by
  have := n.hn
  simp only [Nd.nx, Nd.setNx, List.getD_eq_getElem?_getD, List.getElem?_set]
  split
  · rename_i e; subst e; rw [if_pos (by omega)]; rfl
  · rfl
@[simp] theorem Nd.nx_setSl {n : Nd} {b c : Nat} {s : Slt} : (n.setSl b s).nx c = n.nx c := rfl
@[simp] theorem Nd.sl_setNx {n : Nd} {b c : Nat} {x : Int} : (n.setNx b x).sl c = n.sl c := rfl
theorem Nd.ext' {m n : Nd} (h1 : ∀ b, b < 16 → m.sl b = n.sl b) (h2 : ∀ b, b < 16 → m.nx b = n.nx b) : m = n := by
  obtain ⟨a, b, ha, hb⟩ := m
  obtain ⟨c, d, hc, hd⟩ := n
  have e1 : a = c := List.ext_getElem? fun i => by
    rcases Nat.lt_or_ge i 16 with hi | hi
    · have := h1 i hi
      simp only [Nd.sl, List.getD_eq_getElem?_getD] at this
      rw [List.getElem?_eq_getElem (by omega), List.getElem?_eq_getElem (by omega)] at this ⊢
      simpa using this
    · rw [List.getElem?_eq_none (by omega), List.getElem?_eq_none (by omega)]
  have e2 : b = d := List.ext_getElem? fun i => by
    rcases Nat.lt_or_ge i 16 with hi | hi
    · have := h2 i hi
      simp only [Nd.nx, List.getD_eq_getElem?_getD] at this
      rw [List.getElem?_eq_getElem (by omega), List.getElem?_eq_getElem (by omega)] at this ⊢
      simpa using this
    · rw [List.getElem?_eq_none (by omega), List.getElem?_eq_none (by omega)]
  subst e1; subst e2; rfl

/-! Four bits of a key. -/
/-- Key k with b as its four bits n, where they were 0. -/
def rset (k : Key) (n b : Nat) : Key := if n % 2 = 0 then kset k (n / 2) (16 * b % 256) else kset k (n / 2) ((kbyte k (n / 2) + b) % 256)

/-- How many steps a route takes ahead of the one at which it ends. -/
def lastN (p : Pfx) : Nat := ((p.len - 1) / 4).toNat
/-- A way to a node: its steps, the key as far as that. -/
structure Wy where
  steps : Nat
  key : Key
  deriving DecidableEq
def wayAt (k : Key) (s : Nat) : Wy := ⟨s, kcut k ((4 * s : Nat) : Int)⟩
def root : Wy := ⟨0, 0#128⟩
theorem wayAt_zero (k : Key) : wayAt k 0 = root := by rw [wayAt, root, kcut_none _ _ (by decide)]
/-- The way behind one by four bits. -/
def child (w : Wy) (b : Nat) : Wy := ⟨w.steps + 1, rset w.key w.steps b⟩
def addW (W : List Wy) (w : Wy) : List Wy := if w ∈ W then W else W ++ [w]
def addTo (W : List Wy) (p : Pfx) (n : Nat) : List Wy := (List.range n).foldl (fun W i => addW W (wayAt p.key (i + 1))) W
def addWs (W : List Wy) (r : Rt) (bits : Int) : List Wy := if r.p.bits = bits then addTo W r.p (lastN r.p) else W
def waysF (bits : Int) (t : List Rt) : List Wy := t.foldl (fun W r => addWs W r bits) [root]

/-- What a slot of a way's node holds, of such routes. -/
def hit (r : Rt) (bits : Int) (w : Wy) (b : Nat) : Bool := decide (r.p.bits = bits) && decide (lastN r.p = w.steps) && pfits r.p (rset w.key w.steps b)
def slotUp (bits : Int) (w : Wy) (b : Nat) (s : Slt) (r : Rt) : Slt := if hit r bits w b = true ∧ s.len ≤ r.p.len then ⟨r.p.len + 1, r.hop⟩ else s
def slotF (bits : Int) (R : List Rt) (w : Wy) (b : Nat) : Slt := R.foldl (slotUp bits w b) Slt.no
/-- The number of the way behind one, 0 where there is none. -/
def nextF (W : List Wy) (w : Wy) (b : Nat) : Int := if child w b ∈ W then (W.idxOf (child w b) : Nat) else 0
def nodeF (bits : Int) (W : List Wy) (R : List Rt) (w : Wy) : Nd := Nd.mk' (slotF bits R w) (nextF W w)
/-- A table as a trie's nodes. -/
def nodesF (bits : Int) (t : List Rt) : List Nd := (waysF bits t).map (nodeF bits (waysF bits t) t)

theorem addTo_zero (W : List Wy) (p : Pfx) : addTo W p 0 = W := rfl
theorem addTo_succ (W : List Wy) (p : Pfx) (n : Nat) : addTo W p (n + 1) = addW (addTo W p n) (wayAt p.key (n + 1)) := by simp [addTo, List.range_succ]
theorem ways_nil (bits : Int) : waysF bits [] = [root] := rfl
theorem ways_snoc (bits : Int) (t : List Rt) (r : Rt) : waysF bits (t ++ [r]) = addWs (waysF bits t) r bits := by simp [waysF]
theorem slotF_snoc (bits : Int) (R : List Rt) (r : Rt) (w : Wy) (b : Nat) : slotF bits (R ++ [r]) w b = slotUp bits w b (slotF bits R w b) r := by simp [slotF]

/-! Bits of a key whose four bits are set. -/
theorem rset_msb {k : Key} {n b : Nat} (hn : n < 32) (hb : b < 16) (hk : kcut k ((4 * n : Nat) : Int) = k) (i : Nat) (hi : i < 128) :
    (rset k n b).getMsbD i = if i < 4 * n then k.getMsbD i else if i < 4 * n + 4 then b.testBit (4 * n + 3 - i) else false := by
  have hz : ∀ j, j < 128 → 4 * n ≤ j → k.getMsbD j = false := fun j hj h => (kcut_self_iff k _).1 hk j hj (by omega)
  have hkb : ∀ (x : Nat), x < 256 → (kset k (n / 2) x).getMsbD i = if i / 8 = n / 2 then x.testBit (7 - i % 8) else k.getMsbD i := fun x hx => by
    rw [msb_kbyte _ i hi, kbyte_kset k _ x _ (by omega) hx]
    split
    · rfl
    · rw [msb_kbyte k i hi]
  unfold rset
  split
  · rename_i he
    rw [hkb _ (by omega)]
    by_cases h1 : i / 8 = n / 2
    · rw [if_pos h1, if_neg (by omega)]
      have e : 16 * b % 256 = b * 2 ^ 4 := by omega
      rw [e, Nat.testBit_mul_two_pow]
      by_cases h2 : i < 4 * n + 4
      · rw [if_pos h2, decide_eq_true (by omega), Bool.true_and]; congr 1; omega
      · rw [if_neg h2, decide_eq_false (by omega), Bool.false_and]
    · rw [if_neg h1]
      by_cases h2 : i < 4 * n
      · rw [if_pos h2]
      · rw [if_neg h2, if_neg (by omega)]; exact hz i hi (by omega)
  · rename_i ho
    have hlow : kbyte k (n / 2) % 16 = 0 := by
      have : ∀ j, (kbyte k (n / 2) % 2 ^ 4).testBit j = false := fun j => by
        rw [Nat.testBit_mod_two_pow]
        by_cases hj : j < 4
        · have := msb_kbyte k (8 * (n / 2) + (7 - j)) (by omega)
          rw [show (8 * (n / 2) + (7 - j)) / 8 = n / 2 by omega, show 7 - (8 * (n / 2) + (7 - j)) % 8 = j by omega, hz _ (by omega) (by omega)] at this
          simp [← this]
        · simp [hj]
      have := Nat.eq_of_testBit_eq (x := kbyte k (n / 2) % 2 ^ 4) (y := 0) (fun j => by rw [this j]; simp)
      simpa using this
    have hlt := kbyte_lt k (n / 2)
    have e : (kbyte k (n / 2) + b) % 256 = kbyte k (n / 2) ||| b := by
      obtain ⟨q, hq⟩ : ∃ q, kbyte k (n / 2) = 2 ^ 4 * q := ⟨kbyte k (n / 2) / 16, by omega⟩
      rw [hq, ← Nat.two_pow_add_eq_or_of_lt (i := 4) (by omega) q]; omega
    rw [hkb _ (by omega), e]
    by_cases h1 : i / 8 = n / 2
    · rw [if_pos h1, Nat.testBit_or]
      have hm := msb_kbyte k i hi
      rw [h1] at hm
      rw [← hm]
      by_cases h2 : i < 4 * n
      · rw [if_pos h2, Nat.testBit_lt_two_pow (x := b) (Nat.lt_of_lt_of_le (show b < 2 ^ 4 by omega) (Nat.pow_le_pow_right (by decide) (by omega)))]; simp
      · rw [if_neg h2, if_pos (by omega), hz i hi (by omega), Bool.false_or]; congr 1; omega
    · rw [if_neg h1]
      by_cases h2 : i < 4 * n
      · rw [if_pos h2]
      · rw [if_neg h2, if_neg (by omega)]; exact hz i hi (by omega)

/-- Four bits of a key, as a number. -/
def kst (k : Key) (n : Nat) : Nat := (kstep k n).toNat
theorem kst_lt (k : Key) (n : Nat) : kst k n < 16 := by
  unfold kst kstep
  have h1 := kbit_01 k (4 * n); have h2 := kbit_01 k (4 * n + 1); have h3 := kbit_01 k (4 * n + 2); have h4 := kbit_01 k (4 * n + 3)
  split <;> omega
theorem kst_eq (k : Key) (n : Nat) : kstep k n = (kst k n : Int) := by
  unfold kst kstep
  have h1 := kbit_01 k (4 * n); have h2 := kbit_01 k (4 * n + 1); have h3 := kbit_01 k (4 * n + 2); have h4 := kbit_01 k (4 * n + 3)
  split <;> omega
theorem kst_bit (k : Key) (n j : Nat) (hn : n < 32) (hj : j < 4) : (kst k n).testBit j = k.getMsbD (4 * n + 3 - j) := by
  have e := kst_eq k n
  rw [kstep, if_pos (by omega)] at e
  have b0 := kbit_nat k (4 * n); have b1 := kbit_nat k (4 * n + 1); have b2 := kbit_nat k (4 * n + 2); have b3 := kbit_nat k (4 * n + 3)
  simp only [Int.natCast_add, Int.natCast_mul, Int.cast_ofNat_Int] at b0 b1 b2 b3
  rw [b0, b1, b2, b3] at e
  have key : ∀ (a0 a1 a2 a3 : Bool) (x : Nat), (8 * (if a0 then 1 else 0) + 4 * (if a1 then 1 else 0) + 2 * (if a2 then 1 else 0) + (if a3 then 1 else 0) : Int) = (x : Int) → x.testBit 0 = a3 ∧ x.testBit 1 = a2 ∧ x.testBit 2 = a1 ∧ x.testBit 3 = a0 := by
    intro a0 a1 a2 a3 x hx
    have hx' : x = (8 * (if a0 then 1 else 0) + 4 * (if a1 then 1 else 0) + 2 * (if a2 then 1 else 0) + (if a3 then 1 else 0) : Nat) := by
      cases a0 <;> cases a1 <;> cases a2 <;> cases a3 <;> simp at hx ⊢ <;> omega
    subst hx'
    cases a0 <;> cases a1 <;> cases a2 <;> cases a3 <;> decide
  obtain ⟨h0, h1, h2, h3⟩ := key _ _ _ _ _ e
  match j, hj with
  | 0, _ => exact h0
  | 1, _ => exact h1
  | 2, _ => exact h2
  | 3, _ => exact h3
theorem nib_ext {x y : Nat} (hx : x < 16) (hy : y < 16) (h : ∀ j, j < 4 → x.testBit j = y.testBit j) : x = y := by
  refine Nat.eq_of_testBit_eq fun j => ?_
  rcases Nat.lt_or_ge j 4 with hj | hj
  · exact h j hj
  · have hp : 2 ^ 4 ≤ 2 ^ j := Nat.pow_le_pow_right (by decide) hj
    rw [Nat.testBit_lt_two_pow (Nat.lt_of_lt_of_le hx hp), Nat.testBit_lt_two_pow (Nat.lt_of_lt_of_le hy hp)]
theorem cut_nat_msb (k : Key) (n i : Nat) : (kcut k (n : Int)).getMsbD i = (decide (i < n) && k.getMsbD i) := by
  rw [kcut_msb]; congr 1; simp
section
variable {k : Key} {n b : Nat}
theorem rset_kst (hn : n < 32) (hb : b < 16) (hk : kcut k ((4 * n : Nat) : Int) = k) : kst (rset k n b) n = b :=
  nib_ext (kst_lt _ _) hb fun j hj => by
    rw [kst_bit _ _ _ hn hj, rset_msb hn hb hk _ (by omega), if_neg (by omega), if_pos (by omega)]; congr 1; omega
theorem rset_cut (hn : n < 32) (hb : b < 16) (hk : kcut k ((4 * n : Nat) : Int) = k) : kcut (rset k n b) ((4 * n : Nat) : Int) = k :=
  key_ext fun i hi => by
    have h2 := cut_nat_msb k (4 * n) i
    rw [hk] at h2
    rw [cut_nat_msb, rset_msb hn hb hk i hi]
    by_cases h : i < 4 * n
    · simp [h]
    · simp [h] at h2 ⊢; exact h2
theorem rset_full (hn : n < 32) (hb : b < 16) (hk : kcut k ((4 * n : Nat) : Int) = k) : kcut (rset k n b) ((4 * (n + 1) : Nat) : Int) = rset k n b :=
  key_ext fun i hi => by
    rw [cut_nat_msb, rset_msb hn hb hk i hi]
    by_cases h : i < 4 * (n + 1)
    · simp [h]
    · rw [if_neg (by omega), if_neg (by omega)]; simp
end
theorem cut_cut_nat (k : Key) (n m : Nat) : kcut (kcut k (n : Int)) (m : Int) = kcut k ((min n m : Nat) : Int) := by
  rw [kcut_cut]; congr 1; omega
theorem wayAt_cut (k : Key) (s : Nat) : kcut (wayAt k s).key ((4 * s : Nat) : Int) = (wayAt k s).key := by
  simp only [wayAt]; rw [cut_cut_nat, Nat.min_self]
/-- The way of a key goes on by its four bits. -/
theorem child_wayAt (k : Key) (n : Nat) (hn : n < 32) : child (wayAt k n) (kst k n) = wayAt k (n + 1) := by
  have e : rset (kcut k ((4 * n : Nat) : Int)) n (kst k n) = kcut k ((4 * (n + 1) : Nat) : Int) := key_ext fun i hi => by
    have hm := rset_msb (k := kcut k ((4 * n : Nat) : Int)) hn (kst_lt k n) (wayAt_cut k n) i hi
    rw [hm, cut_nat_msb, cut_nat_msb]
    by_cases h : i < 4 * n
    · simp [h, show i < 4 * (n + 1) by omega]
    · rw [if_neg h]
      by_cases h2 : i < 4 * n + 4
      · rw [if_pos h2, kst_bit _ _ _ hn (by omega), decide_eq_true (show i < 4 * (n + 1) by omega), Bool.true_and]; congr 1; omega
      · rw [if_neg h2, decide_eq_false (show ¬ i < 4 * (n + 1) by omega), Bool.false_and]
  simp only [child, wayAt, e]
/-- A way that may be. -/
def Wy.ok (w : Wy) : Prop := w.steps < 32 ∧ kcut w.key ((4 * w.steps : Nat) : Int) = w.key
theorem child_inj {w v : Wy} {b c : Nat} (hw : w.ok) (hv : v.ok) (hb : b < 16) (hc : c < 16) (e : child w b = child v c) : w = v ∧ b = c := by
  obtain ⟨ws, wk⟩ := w
  obtain ⟨vs, vk⟩ := v
  simp only [child, Wy.mk.injEq] at e
  obtain ⟨e1, e2⟩ := e
  have e3 : ws = vs := by omega
  subst e3
  have h1 := rset_cut hw.1 hb hw.2
  have h2 := rset_kst hw.1 hb hw.2
  simp only at h1 h2
  rw [e2, rset_kst hv.1 hc hv.2] at h2
  rw [e2, rset_cut hv.1 hc hv.2] at h1
  have h1' : vk = wk := h1
  exact ⟨by rw [h1'], h2.symm⟩
theorem wayAt_ok (k : Key) (s : Nat) (h : s < 32) : (wayAt k s).ok := ⟨h, wayAt_cut k s⟩
theorem wayAt_up (k : Key) (s n : Nat) (h : s ≤ n) : wayAt (wayAt k n).key s = wayAt k s := by
  simp only [wayAt]; rw [cut_cut_nat, Nat.min_eq_right (by omega)]
theorem root_ok : root.ok := ⟨by decide, by rw [root]; exact kcut_none _ _ (by decide)⟩

/-! Ways put together. -/
theorem addW_mem {W : List Wy} {w v : Wy} : v ∈ addW W w ↔ v ∈ W ∨ v = w := by
  unfold addW; split
  · rename_i h; exact ⟨.inl, fun | .inl h => h | .inr e => e ▸ h⟩
  · simp
theorem addW_nodup {W : List Wy} {w : Wy} (h : W.Nodup) : (addW W w).Nodup := by
  unfold addW; split
  · exact h
  · rename_i hw
    rw [List.nodup_append]
    exact ⟨h, by simp, fun a ha b hb => by simp at hb; subst hb; intro e; subst e; exact hw ha⟩
theorem addW_pre {W : List Wy} {w : Wy} : W <+: addW W w := by
  unfold addW; split
  · exact List.prefix_rfl
  · exact List.prefix_append _ _
theorem addTo_mem {W : List Wy} {p : Pfx} {v : Wy} : ∀ {n : Nat}, v ∈ addTo W p n ↔ v ∈ W ∨ ∃ s, 1 ≤ s ∧ s ≤ n ∧ v = wayAt p.key s
  | 0 => by simp [addTo_zero]; omega
  | n + 1 => by
    rw [addTo_succ, addW_mem, addTo_mem (n := n)]
    constructor
    · rintro ((h | ⟨s, h1, h2, h3⟩) | h)
      · exact .inl h
      · exact .inr ⟨s, h1, by omega, h3⟩
      · exact .inr ⟨n + 1, by omega, by omega, h⟩
    · rintro (h | ⟨s, h1, h2, h3⟩)
      · exact .inl (.inl h)
      · rcases Nat.lt_or_ge n s with h4 | h4
        · obtain rfl : s = n + 1 := by omega
          exact .inr h3
        · exact .inl (.inr ⟨s, h1, h4, h3⟩)
theorem addTo_nodup {W : List Wy} {p : Pfx} (h : W.Nodup) : ∀ n, (addTo W p n).Nodup
  | 0 => h
  | n + 1 => by rw [addTo_succ]; exact addW_nodup (addTo_nodup h n)
theorem addTo_pre {W : List Wy} {p : Pfx} : ∀ n, W <+: addTo W p n
  | 0 => List.prefix_rfl
  | n + 1 => by rw [addTo_succ]; exact (addTo_pre n).trans addW_pre
theorem addTo_le {W : List Wy} {p : Pfx} {n m : Nat} (h : n ≤ m) : addTo W p n <+: addTo W p m := by
  induction m with
  | zero => obtain rfl : n = 0 := by omega
            exact List.prefix_rfl
  | succ m ih =>
    rcases Nat.lt_or_ge m n with h' | h'
    · obtain rfl : n = m + 1 := by omega
      exact List.prefix_rfl
    · rw [addTo_succ]; exact (ih h').trans addW_pre
theorem addWs_pre {W : List Wy} {r : Rt} {bits : Int} : W <+: addWs W r bits := by
  unfold addWs; split
  · exact addTo_pre _
  · exact List.prefix_rfl
/-- What is so of a table's waysF. -/
structure WOk (W : List Wy) : Prop where
  nodup : W.Nodup
  root : W[0]? = some root
  ok : ∀ w ∈ W, w.ok
  up : ∀ w ∈ W, ∀ s, s ≤ w.steps → wayAt w.key s ∈ W
  ord : ∀ (i : Nat) (w : Wy), W[i]? = some w → ∀ s, s < w.steps → ∃ j, j < i ∧ W[j]? = some (wayAt w.key s)
theorem WOk.ne {W : List Wy} (h : WOk W) : 0 < W.length := by
  have := h.root
  rcases Nat.eq_zero_or_pos W.length with e | e
  · rw [List.getElem?_eq_none (by omega)] at this; simp at this
  · exact e
theorem WOk.one : WOk [Kb.root] := ⟨by simp, rfl, fun w hw => by simp at hw; subst hw; exact root_ok, fun w hw s hs => by
  simp at hw; subst hw
  have : s = 0 := by simpa [Kb.root] using hs
  subst this; rw [wayAt_zero]; simp, fun i w hi s hs => by
  have hw := List.mem_of_getElem? hi
  simp at hw; subst hw
  exact absurd hs (by simp [Kb.root])⟩
theorem WOk.add {W : List Wy} (h : WOk W) {p : Pfx} : ∀ {n : Nat}, n < 32 → WOk (addTo W p n)
  | 0, _ => h
  | n + 1, hn => by
    have ih := h.add (p := p) (n := n) (by omega)
    refine ⟨addTo_nodup h.nodup _, ?_, fun w hw => ?_, fun w hw s hs => ?_, fun i w hi s hs => ?_⟩
    · have := addTo_pre (W := W) (p := p) (n + 1)
      obtain ⟨t, ht⟩ := this
      rw [← ht, List.getElem?_append_left h.ne]; exact h.root
    · rcases addTo_mem.1 hw with hw | ⟨s, h1, h2, rfl⟩
      · exact h.ok w hw
      · exact wayAt_ok _ _ (by omega)
    · rcases addTo_mem.1 hw with hw | ⟨s', h1, h2, rfl⟩
      · exact addTo_mem.2 (.inl (h.up w hw s hs))
      · have hs' : s ≤ s' := hs
        rw [wayAt_up _ _ _ hs']
        rcases Nat.eq_zero_or_pos s with e | e
        · subst e; rw [wayAt_zero]; exact addTo_mem.2 (.inl (List.mem_of_getElem? h.root))
        · exact addTo_mem.2 (.inr ⟨s, e, by omega, rfl⟩)
    · rw [addTo_succ] at hi ⊢
      unfold addW at hi ⊢
      split at hi
      · rename_i hm; rw [if_pos hm]; exact ih.ord i w hi s hs
      · rename_i hm; rw [if_neg hm]
        rcases Nat.lt_or_ge i (addTo W p n).length with hlt | hge
        · rw [List.getElem?_append_left hlt] at hi
          obtain ⟨j, hj, e⟩ := ih.ord i w hi s hs
          exact ⟨j, hj, by rw [List.getElem?_append_left (by omega)]; exact e⟩
        · have hi2 := (List.getElem?_eq_some_iff.1 hi).1
          simp only [List.length_append, List.length_cons, List.length_nil] at hi2
          obtain rfl : i = (addTo W p n).length := by omega
          rw [List.getElem?_append_right (Nat.le_refl _), Nat.sub_self, List.getElem?_cons_zero] at hi
          obtain rfl := Option.some.inj hi
          have hs' : s < n + 1 := hs
          have hmem : wayAt p.key s ∈ addTo W p n := by
            rcases Nat.eq_zero_or_pos s with e | e
            · subst e; rw [wayAt_zero]; exact List.mem_of_getElem? ih.root
            · exact addTo_mem.2 (.inr ⟨s, e, by omega, rfl⟩)
          obtain ⟨j, hj⟩ := List.mem_iff_getElem?.1 hmem
          have hjl := (List.getElem?_eq_some_iff.1 hj).1
          exact ⟨j, hjl, by rw [wayAt_up _ _ _ (by omega), List.getElem?_append_left hjl]; exact hj⟩
theorem lastN_lt {p : Pfx} (h : pmay p = true) : lastN p < 32 := by
  obtain ⟨h1, h2, h3, _⟩ := (pmay_iff p).1 h
  unfold lastN; omega
theorem WOk.addWs {W : List Wy} (h : WOk W) {r : Rt} {bits : Int} (hr : pmay r.p = true) : WOk (addWs W r bits) := by
  unfold Kb.addWs; split
  · exact h.add (lastN_lt hr)
  · exact h
theorem ways_ok' {bits : Int} : ∀ {t : List Rt} {W : List Wy}, WOk W → (∀ r ∈ t, pmay r.p = true) → WOk (t.foldl (fun W r => Kb.addWs W r bits) W)
  | [], _, h, _ => h
  | r :: t, _, h, ha => ways_ok' (t := t) (h.addWs (ha r (by simp))) fun x hx => ha x (by simp [hx])
theorem ways_ok {bits : Int} {t : List Rt} (h : ∀ r ∈ t, pmay r.p = true) : WOk (waysF bits t) := ways_ok' WOk.one h
/-- The waysF of all of the routes are there. -/
def Holds' (bits : Int) (W : List Wy) (R : List Rt) : Prop := ∀ r ∈ R, r.p.bits = bits → ∀ s, 1 ≤ s → s ≤ lastN r.p → wayAt r.p.key s ∈ W
end Go.Kb
