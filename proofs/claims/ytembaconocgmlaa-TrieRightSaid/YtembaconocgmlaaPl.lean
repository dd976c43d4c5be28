/- Tables as bodies of bytes, and back: what is computed. No program in sight. -/
import Derived.Test.YtembaconocgmlaaPk
import Derived.Test.YtembaconocgmlaaDp
set_option linter.unusedSimpArgs false
set_option linter.unusedVariables false
namespace Go.Kb
open Go.Eng

/-! Bodies of a table. -/
/-- Body id of a table, n routes each. -/
def bodyAt (t : List Rt) (n id : Nat) : List UInt8 := ((t.drop (id * n)).take n).flatMap rbytes
def bodiesOf (t : List Rt) (ids n : Nat) : List (List UInt8) := (List.range ids).map (bodyAt t n)
def most (a b : Int) : Int := if a < 1 ∨ 64 < a ∨ b < 20 ∨ 240 < b then 0 else min (a * (b / 20)) 256
def bodiesE (t : List Rt) (ids room : Int) : Int := if tright t = false ∨ most ids room = 0 then 1 else if most ids room < t.length then 5 else 0
def bodiesV (t : List Rt) (ids room : Int) : List (List UInt8) := if bodiesE t ids room = 0 then bodiesOf t ids.toNat (room / 20).toNat else []
theorem bodiesOf_length (t : List Rt) (ids n : Nat) : (bodiesOf t ids n).length = ids := by simp [bodiesOf]
theorem flat_length (l : List Rt) : (l.flatMap rbytes).length = 20 * l.length := by
  induction l with
  | nil => rfl
  | cons a l ih => rw [List.flatMap_cons, List.length_append, ih, rbytes_length, List.length_cons]; omega
theorem bodyAt_length (t : List Rt) (n id : Nat) : (bodyAt t n id).length = 20 * min n (t.length - id * n) := by
  rw [bodyAt, flat_length, List.length_take, List.length_drop]
theorem bodyAt_le (t : List Rt) (n id : Nat) : (bodyAt t n id).length ≤ 20 * n := by rw [bodyAt_length]; omega
theorem most_pos {a b : Int} (h : ¬ most a b = 0) : 1 ≤ a ∧ a ≤ 64 ∧ 20 ≤ b ∧ b ≤ 240 ∧ most a b = min (a * (b / 20)) 256 ∧ 1 ≤ b / 20 ∧ b / 20 ≤ 12 := by
  unfold most at h ⊢
  split at h
  · exact absurd rfl h
  · rename_i hn
    rw [if_neg hn]
    have : 1 ≤ b / 20 ∧ b / 20 ≤ 12 := by omega
    exact ⟨by omega, by omega, by omega, by omega, rfl, this.1, this.2⟩
/-- A route more. -/
theorem bodyAt_take {t : List Rt} {r : Rt} {i n id : Nat} (hn : 0 < n) (hr : t[i]? = some r) : bodyAt (t.take (i + 1)) n id = bodyAt (t.take i) n id ++ (if id = i / n then rbytes r else []) := by
  have hlt : i < t.length := (List.getElem?_eq_some_iff.1 hr).1
  have e1 : t.take (i + 1) = t.take i ++ [r] := by rw [List.take_add_one, hr]; rfl
  have hd := Nat.div_add_mod i n
  have hm := Nat.mod_lt i hn
  have hc : n * (i / n) = i / n * n := Nat.mul_comm _ _
  unfold bodyAt
  have l1 : (t.take i).length = i := by rw [List.length_take]; omega
  rw [e1]
  by_cases h1 : id = i / n
  · subst h1
    have e2 : (t.take i ++ [r]).drop (i / n * n) = (t.take i).drop (i / n * n) ++ [r] := List.drop_append_of_le_length (by rw [l1]; omega)
    have e3 : ((t.take i).drop (i / n * n) ++ [r]).take n = (t.take i).drop (i / n * n) ++ [r] := List.take_of_length_le (by rw [List.length_append, List.length_drop, l1]; simp only [List.length_cons, List.length_nil]; omega)
    have e4 : ((t.take i).drop (i / n * n)).take n = (t.take i).drop (i / n * n) := List.take_of_length_le (by rw [List.length_drop, l1]; omega)
    rw [if_pos rfl, e2, e3, e4]
    simp
  · rw [if_neg h1, List.append_nil]
    rcases Nat.lt_or_gt_of_ne h1 with h2 | h2
    · have : (id + 1) * n ≤ i / n * n := Nat.mul_le_mul_right _ h2
      rw [Nat.add_mul] at this
      rw [List.drop_append_of_le_length (by rw [l1]; omega), List.take_append_of_le_length (by rw [List.length_drop, l1]; omega)]
    · have : (i / n + 1) * n ≤ id * n := Nat.mul_le_mul_right _ h2
      rw [Nat.add_mul] at this
      rw [List.drop_eq_nil_of_le (by rw [List.length_append, l1]; simp; omega), List.drop_eq_nil_of_le (by rw [l1]; omega)]
theorem bodiesOf_take {t : List Rt} {r : Rt} {i n ids : Nat} {x : List UInt8} (hn : 0 < n) (hr : t[i]? = some r) (hx : (bodiesOf (t.take i) ids n)[i / n]? = some x) :
    bodiesOf (t.take (i + 1)) ids n = (bodiesOf (t.take i) ids n).set (i / n) (x ++ rbytes r) := by
  refine List.ext_getElem? fun j => ?_
  rw [List.getElem?_set]
  have hk : i / n < ids := by have := (List.getElem?_eq_some_iff.1 hx).1; rwa [bodiesOf_length] at this
  by_cases hj : j < ids
  · have e : ∀ t', (bodiesOf t' ids n)[j]? = some (bodyAt t' n j) := fun t' => by simp [bodiesOf, hj]
    rw [e, bodyAt_take hn hr]
    by_cases h : i / n = j
    · subst h
      rw [e] at hx
      rw [if_pos rfl, if_pos rfl, if_pos (by rw [bodiesOf_length]; exact hk)]
      rw [Option.some.inj hx]
    · rw [if_neg (fun e => h e.symm), if_neg h, List.append_nil, e]
  · rw [List.getElem?_eq_none (by rw [bodiesOf_length]; omega), if_neg (by omega), List.getElem?_eq_none (by rw [bodiesOf_length]; omega)]
theorem bodiesOf_zero (t : List Rt) (ids n : Nat) : bodiesOf (t.take 0) ids n = List.replicate ids [] := by
  refine List.eq_replicate_iff.2 ⟨bodiesOf_length _ _ _, fun x hx => ?_⟩
  obtain ⟨j, _, rfl⟩ := List.mem_map.1 hx
  simp [bodyAt]
theorem bodiesOf_all (t : List Rt) (ids n : Nat) : bodiesOf (t.take t.length) ids n = bodiesOf t ids n := by rw [List.take_length]
/-- The body that is being laid. -/
def bodyPre (t : List Rt) (a i : Nat) : List UInt8 := ((t.drop a).take (i - a)).flatMap rbytes
theorem bodyPre_self (t : List Rt) (a : Nat) : bodyPre t a a = [] := by simp [bodyPre]
theorem bodyPre_succ {t : List Rt} {a i : Nat} {r : Rt} (h : a ≤ i) (hr : t[i]? = some r) : bodyPre t a (i + 1) = bodyPre t a i ++ rbytes r := by
  unfold bodyPre
  rw [show i + 1 - a = (i - a) + 1 by omega, List.take_add_one, List.getElem?_drop, show a + (i - a) = i by omega, hr]
  simp
theorem bodyPre_length (t : List Rt) (a i : Nat) : (bodyPre t a i).length ≤ 20 * (i - a) := by
  rw [bodyPre, flat_length, List.length_take]; omega
theorem bodyPre_end {t : List Rt} {n id i : Nat} (h : id * n ≤ i) (hi : i ≤ (id + 1) * n) (hd : (id + 1) * n ≤ i ∨ t.length ≤ i) : bodyPre t (id * n) i = bodyAt t n id := by
  unfold bodyPre bodyAt
  congr 1
  rw [Nat.add_mul] at hi hd
  by_cases h1 : i = id * n + n
  · congr 1; omega
  · rw [List.take_of_length_le (by rw [List.length_drop]; omega), List.take_of_length_le (by rw [List.length_drop]; omega)]
theorem bodiesOf_succ (t : List Rt) (id n : Nat) : bodiesOf t (id + 1) n = bodiesOf t id n ++ [bodyAt t n id] := by simp [bodiesOf, List.range_succ]

/-! Bodies that are read. -/
def rdroute (b : List UInt8) : Rt := ⟨⟨if b.getD 0 0 = 1 then 128 else 32, (b.getD 1 0).toNat, kof fun i => (b.getD (2 + i) 0).toNat⟩, UInt16.ofNat ((b.getD 18 0).toNat * 256 + (b.getD 19 0).toNat)⟩
def rd (b : List UInt8) : Option Rt := if b.getD 0 0 ≤ 1 then some (rdroute b) else none
def unbody (b : List UInt8) : Option (List Rt) :=
  if h : b.length < 20 then (if b.length = 0 then some [] else none)
  else match rd (b.take 20), unbody (b.drop 20) with
    | some r, some l => some (r :: l)
    | _, _ => none
termination_by b.length
decreasing_by rw [List.length_drop]; omega
theorem unbody_nil : unbody [] = some [] := by rw [unbody]; simp
theorem unbody_cons {b : List UInt8} (h : 20 ≤ b.length) : unbody b = (rd (b.take 20)).bind fun r => (unbody (b.drop 20)).map (r :: ·) := by
  rw [unbody, dif_neg (by omega)]
  cases rd (b.take 20) <;> simp
  cases unbody (b.drop 20) <;> simp
theorem unbody_mod : ∀ (k : Nat) (b : List UInt8), b.length ≤ k → ¬ b.length % 20 = 0 → unbody b = none
  | 0, b, h, hm => by have : b.length = 0 := by omega
                      rw [this] at hm; simp at hm
  | k + 1, b, h, hm => by
    by_cases h2 : b.length < 20
    · rw [unbody, dif_pos h2, if_neg (fun e => by rw [e] at hm; simp at hm)]
    · rw [unbody_cons (by omega), unbody_mod k (b.drop 20) (by rw [List.length_drop]; omega) (by rw [List.length_drop]; omega)]
      cases rd (b.take 20) <;> rfl
def untable : List (List UInt8) → Option (List Rt)
  | [] => some []
  | b :: r => (unbody b).bind fun l => (untable r).map (l ++ ·)
theorem untable_append : ∀ a b : List (List UInt8), untable (a ++ b) = (untable a).bind fun l => (untable b).map (l ++ ·)
  | [], b => by simp [untable]
  | x :: a, b => by
    rw [List.cons_append, untable, untable, untable_append a b]
    cases unbody x <;> simp
    cases untable a <;> simp
    cases untable b <;> simp
theorem untable_succ {bs : List (List UInt8)} {i : Nat} {b : List UInt8} (h : bs[i]? = some b) : untable (bs.take (i + 1)) = (untable (bs.take i)).bind fun l => (unbody b).map (l ++ ·) := by
  rw [List.take_add_one, h, Option.toList_some, untable_append, untable, untable]
  cases untable (bs.take i) with
  | none => rfl
  | some l => cases unbody b <;> simp
theorem untable_none {bs : List (List UInt8)} {i : Nat} (h : untable (bs.take i) = none) : untable bs = none := by
  rw [← List.take_append_drop i bs, untable_append, h]; rfl
def tabV (bs : List (List UInt8)) : List Rt := match untable bs with
  | some t => if tright t = true then t else []
  | none => []
def tabE (bs : List (List UInt8)) : Int := match untable bs with
  | some t => if tright t = true then 0 else 2
  | none => 2
theorem tab_none {bs : List (List UInt8)} (h : untable bs = none) : tabV bs = [] ∧ tabE bs = 2 := by simp [tabV, tabE, h]
theorem tab_bad {bs : List (List UInt8)} {t : List Rt} (h : untable bs = some t) (hr : tright t = false) : tabV bs = [] ∧ tabE bs = 2 := by simp [tabV, tabE, h, hr]
theorem tab_ok {bs : List (List UInt8)} {t : List Rt} (h : untable bs = some t) (hr : tright t = true) : tabV bs = t ∧ tabE bs = 0 := by simp [tabV, tabE, h, hr]

/-! What changed. -/
def chgAt (a b : List (List UInt8)) (i : Nat) : Option (Int × List UInt8) := if a.getD i [] = b.getD i [] then none else some ((i : Int), b.getD i [])
def chgTo (a b : List (List UInt8)) (n : Nat) : List (Int × List UInt8) := (List.range n).filterMap (chgAt a b)
def chg (a b : List (List UInt8)) : List (Int × List UInt8) := chgTo a b (max a.length b.length)
theorem chgTo_no {a b : List (List UInt8)} {n : Nat} (h : a.getD n [] = b.getD n []) : chgTo a b (n + 1) = chgTo a b n := by
  have e : chgAt a b n = none := by rw [chgAt, if_pos h]
  simp [chgTo, List.range_succ, e]
theorem chgTo_yes {a b : List (List UInt8)} {n : Nat} (h : ¬ a.getD n [] = b.getD n []) : chgTo a b (n + 1) = chgTo a b n ++ [((n : Int), b.getD n [])] := by
  have e : chgAt a b n = some ((n : Int), b.getD n []) := by rw [chgAt, if_neg h]
  simp [chgTo, List.range_succ, e]
theorem chgTo_length (a b : List (List UInt8)) (n : Nat) : (chgTo a b n).length ≤ n := by
  have := List.length_filterMap_le (chgAt a b) (List.range n)
  simpa [chgTo] using this

/-! The cells of a route that is read. -/
def rdok (b : List UInt8) : Bool := decide (b.getD 0 0 ≤ 1)
def rdv (b : List UInt8) : Rt := if rdok b = true then rdroute b else zroute
theorem rd_eq (b : List UInt8) : rd b = if rdok b = true then some (rdroute b) else none := by simp [rd, rdok]
theorem rdroute_hop (b : List UInt8) : (rdroute b).hop = hop16 (b.getD 18 0) (b.getD 19 0) := rfl
theorem unlaid_cells {b : List UInt8} (hb : b.length = 20) (v : Int) (hv : v = if b.getD 0 0 = 1 then 128 else 32) :
    (over (((rcells zroute).setIfInBounds 0 (.int .i64 v)).setIfInBounds 1 (.int .i64 (b.getD 1 0).toNat)) 2 (flatR benc ((b.drop 2).take 16)).toArray).setIfInBounds 18 (.int .u16 (hop16 (b.getD 18 0) (b.getD 19 0)).toNat) = rcells (rdroute b) := by
  have hk : (flatR benc ((b.drop 2).take 16)).toArray.size = 16 := by rw [List.size_toArray, flatR_length, List.length_take, List.length_drop, hb]; rfl
  have h0 : (rcells zroute).size = 19 := rcells_size _
  have hs : 2 + (flatR benc ((b.drop 2).take 16)).toArray.size ≤ (((rcells zroute).setIfInBounds 0 (.int .i64 v)).setIfInBounds 1 (.int .i64 (b.getD 1 0).toNat)).size := by rw [hk]; simp [h0]
  refine Array.ext_getElem? fun j => ?_
  rw [Array.getElem?_setIfInBounds, over_size hs, cells_over hs, hk]
  by_cases h18 : 18 = j
  · subst h18; rw [if_pos rfl, rcells_hop, rdroute_hop]; simp [h0]
  rw [if_neg h18]
  by_cases h2 : 2 ≤ j ∧ j < 2 + 16
  · rw [if_pos h2, rcells_p _ j (by omega), show j = 2 + (j - 2) by omega, pcells_k, kcells_get _ _ (by omega), show 2 + (j - 2) - 2 = j - 2 by omega]
    have hg : ((b.drop 2).take 16)[j - 2]? = some (b.getD j 0) := by
      rw [List.getElem?_take, if_pos (by omega), List.getElem?_drop, show 2 + (j - 2) = j by omega, List.getD, List.getElem?_eq_getElem (by omega)]; rfl
    have := flatR_get (enc := benc) ((b.drop 2).take 16) (j - 2) _ hg 0 (by decide)
    simp only [Nat.mul_one, Nat.add_zero] at this
    rw [show (flatR benc ((b.drop 2).take 16)).toArray[j - 2]? = (flatR benc ((b.drop 2).take 16))[j - 2]? by simp, this]
    have e : kbyte (rdroute b).p.key (j - 2) = (b.getD j 0).toNat := by
      show kbyte (kof fun i => (b.getD (2 + i) 0).toNat) (j - 2) = _
      rw [kbyte_kof _ _ (by omega), show 2 + (j - 2) = j by omega]
      have := (b.getD j 0).toNat_lt; omega
    rw [e]; rfl
  rw [if_neg h2, Array.getElem?_setIfInBounds]
  by_cases h1 : 1 = j
  · subst h1; rw [if_pos rfl, rcells_p _ 1 (by decide), pcells_1]; simp [h0, rdroute]
  rw [if_neg h1, Array.getElem?_setIfInBounds]
  by_cases hj : 0 = j
  · subst hj; rw [if_pos rfl, rcells_p _ 0 (by decide), pcells_0]; simp [h0, rdroute, hv]
  · rw [if_neg hj, Array.getElem?_eq_none (by rw [h0]; omega), Array.getElem?_eq_none (by rw [rcells_size]; omega)]

theorem de_two {xs : List UInt8} {k n : Nat} {a b : UInt8} (ha : xs[k]? = some a) (hb : xs[k + 1]? = some b) (hn : n = k + 2) : de ((xs.drop k).take (n - k)) = (hop16 a b).toNat := by
  have e : (xs.drop k).take (n - k) = [a, b] := by
    refine List.ext_getElem? fun j => ?_
    rw [List.getElem?_take, List.getElem?_drop]
    match j with
    | 0 => rw [if_pos (by omega)]; simpa using ha
    | 1 => rw [if_pos (by omega)]; simpa using hb
    | j + 2 => rw [if_neg (by omega)]; simp
  rw [e, hop16_toNat]; simp [de]
theorem rcells_set0 (r : Rt) (v : Int) : (rcells r).setIfInBounds 0 (.int .i64 v) = rcells ⟨⟨v, r.p.len, r.p.key⟩, r.hop⟩ := by
  refine Array.ext_getElem? fun j => ?_
  rw [Array.getElem?_setIfInBounds]
  have h0 : (rcells r).size = 19 := rcells_size _
  by_cases hj : 0 = j
  · subst hj; rw [if_pos rfl, rcells_p _ 0 (by decide), pcells_0]; simp [h0]
  rw [if_neg hj]
  match j, hj with
  | 1, _ => rw [rcells_p _ 1 (by decide), rcells_p _ 1 (by decide), pcells_1, pcells_1]
  | j + 2, _ =>
    rcases Nat.lt_or_ge j 16 with h | h
    · rw [rcells_p _ _ (by omega), rcells_p _ _ (by omega), Nat.add_comm j 2, pcells_k, pcells_k]
    · by_cases e : j = 16
      · subst e; rw [rcells_hop, rcells_hop]
      · rw [Array.getElem?_eq_none (by rw [h0]; omega), Array.getElem?_eq_none (by rw [rcells_size]; omega)]
/-- A key of which n bytes are laid. -/
def kpre (f : Nat → Nat) (n : Nat) : Key := kof fun j => if j < n then f j else 0
theorem kpre_zero (f : Nat → Nat) : kpre f 0 = 0#128 := by
  refine key_ext_byte fun j hj => ?_
  rw [kpre, kbyte_kof _ _ hj]; simp [kbyte]
theorem kpre_all (f : Nat → Nat) : kpre f 16 = kof f := by
  refine key_ext_byte fun j hj => ?_
  rw [kpre, kbyte_kof _ _ hj, kbyte_kof _ _ hj, if_pos hj]
theorem rcells_kpre {b l : Int} {h : UInt16} {f : Nat → Nat} {n : Nat} (hn : n < 16) (hf : f n < 256) :
    (rcells ⟨⟨b, l, kpre f n⟩, h⟩).setIfInBounds (2 + n) (.int .u8 (f n : Nat)) = rcells ⟨⟨b, l, kpre f (n + 1)⟩, h⟩ := by
  refine Array.ext_getElem? fun j => ?_
  rw [Array.getElem?_setIfInBounds]
  have h0 : ∀ r, (rcells r).size = 19 := rcells_size
  by_cases hj : 2 + n = j
  · subst hj
    have e : kbyte (kpre f (n + 1)) n = f n := by rw [kpre, kbyte_kof _ _ hn, if_pos (by omega)]; exact Nat.mod_eq_of_lt hf
    rw [if_pos rfl, rcells_p _ _ (by omega), pcells_k, kcells_get _ _ hn, if_pos (by rw [h0]; omega)]
    show _ = some (Value.int .u8 (kbyte (kpre f (n + 1)) n : Nat))
    rw [e]
  rw [if_neg hj]
  match j, hj with
  | 0, _ => rw [rcells_p _ 0 (by decide), rcells_p _ 0 (by decide), pcells_0, pcells_0]
  | 1, _ => rw [rcells_p _ 1 (by decide), rcells_p _ 1 (by decide), pcells_1, pcells_1]
  | j + 2, hj =>
    rcases Nat.lt_or_ge j 16 with h | h
    · rw [rcells_p _ _ (by omega), rcells_p _ _ (by omega), Nat.add_comm j 2, pcells_k, pcells_k, kcells_get _ _ h, kcells_get _ _ h, kpre, kpre, kbyte_kof _ _ h, kbyte_kof _ _ h]
      by_cases h1 : j < n
      · rw [if_pos h1, if_pos (by omega)]
      · rw [if_neg h1, if_neg (by omega)]
    · by_cases e : j = 16
      · subst e; rw [rcells_hop, rcells_hop]
      · rw [Array.getElem?_eq_none (by rw [h0]; omega), Array.getElem?_eq_none (by rw [h0]; omega)]
theorem rd_drop {b : List UInt8} {k : Nat} (i : Nat) (hi : i < 20) : ((b.drop k).take 20).getD i 0 = b.getD (k + i) 0 := by
  simp [List.getD, List.getElem?_take, hi, List.getElem?_drop]
theorem unbody_step {b : List UInt8} {k : Nat} (h : k + 20 ≤ b.length) : unbody (b.drop k) = (rd ((b.drop k).take 20)).bind fun r => (unbody (b.drop (k + 20))).map (r :: ·) := by
  rw [unbody_cons (by rw [List.length_drop]; omega), List.drop_drop]
theorem rd_at (xs : List UInt8) (k : Nat) : rdroute ((xs.drop k).take 20) = ⟨⟨if xs.getD k 0 = 1 then 128 else 32, (xs.getD (k + 1) 0).toNat, kpre (fun j => (xs.getD (k + (2 + j)) 0).toNat) 16⟩, hop16 (xs.getD (k + 18) 0) (xs.getD (k + 19) 0)⟩ := by
  have e := fun i h => rd_drop (b := xs) (k := k) i h
  have ek : (kof fun i => (((xs.drop k).take 20).getD (2 + i) 0).toNat) = kpre (fun j => (xs.getD (k + (2 + j)) 0).toNat) 16 := by
    rw [kpre_all]
    refine key_ext_byte fun j hj => ?_
    rw [kbyte_kof _ _ hj, kbyte_kof _ _ hj, e (2 + j) (by omega)]
  show (⟨⟨if ((xs.drop k).take 20).getD 0 0 = 1 then 128 else 32, (((xs.drop k).take 20).getD 1 0).toNat, kof fun i => (((xs.drop k).take 20).getD (2 + i) 0).toNat⟩, hop16 (((xs.drop k).take 20).getD 18 0) (((xs.drop k).take 20).getD 19 0)⟩ : Rt) = _
  rw [ek, e 0 (by decide), e 1 (by decide), e 18 (by decide), e 19 (by decide), Nat.add_zero]
theorem bodiesE_1 {t : List Rt} {ids room : Int} (h : most ids room = 0 ∨ tright t = false) : bodiesE t ids room = 1 ∧ bodiesV t ids room = [] := by
  have e : bodiesE t ids room = 1 := if_pos h.symm
  exact ⟨e, by rw [bodiesV, e]; rfl⟩
theorem bodiesE_5 {t : List Rt} {ids room : Int} (h : ¬ most ids room = 0) (h' : tright t = true) (h2 : most ids room < t.length) : bodiesE t ids room = 5 ∧ bodiesV t ids room = [] := by
  have e : bodiesE t ids room = 5 := by
    rw [bodiesE, if_neg (by simp [h, h']), if_pos h2]
  exact ⟨e, by rw [bodiesV, e]; rfl⟩
theorem bodiesE_0 {t : List Rt} {ids room : Int} (h : ¬ most ids room = 0) (h' : tright t = true) (h2 : ¬ most ids room < t.length) : bodiesE t ids room = 0 ∧ bodiesV t ids room = bodiesOf t ids.toNat (room / 20).toNat := by
  have e : bodiesE t ids room = 0 := by
    rw [bodiesE, if_neg (by simp [h, h']), if_neg h2]
  exact ⟨e, by rw [bodiesV, if_pos e]⟩
theorem lx_set {s : Sv} {xs : List (Sl UInt8)} {i : Nat} {y : Sl UInt8} : lx (⟨s, xs.set i y⟩ : Sl (Sl UInt8)) = (xs.map (·.xs)).set i y.xs := by simp [lx, List.map_set]
end Go.Kb
