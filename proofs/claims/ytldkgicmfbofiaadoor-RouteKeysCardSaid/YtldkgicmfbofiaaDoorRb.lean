/- Keys, prefixes and routes as texts. No program in sight. -/
import Derived.Test.YtldkgicmfbofiaaDoorRa
import Derived.Test.YtldkgicmfbofiaaDoorKey
import Derived.Test.YtldkgicmfbofiaaDoorRt
set_option linter.unusedSimpArgs false
set_option linter.unusedVariables false
namespace Go.Kb
open Go.Eng
variable {s : Txt} {c : UInt8} {k : Key}
def hexc (n : Nat) : UInt8 := if n < 10 then UInt8.ofNat (48 + n) else UInt8.ofNat (87 + n)
def hexO (c : UInt8) : Option Nat := if 48 ≤ c.toNat ∧ c.toNat ≤ 57 then some (c.toNat - 48) else if 97 ≤ c.toNat ∧ c.toNat ≤ 102 then some (c.toNat - 87) else none
theorem hexc_toNat {n : Nat} (h : n < 16) : (hexc n).toNat = if n < 10 then 48 + n else 87 + n := by
  unfold hexc
  split
  · rw [UInt8.toNat_ofNat']; omega
  · rw [UInt8.toNat_ofNat']; omega
theorem hex_iff {n : Nat} (h : n < 16) : hexO c = some n ↔ c = hexc n := by
  have ht := hexc_toNat h
  constructor
  · intro h1
    apply UInt8.toNat_inj.1
    rw [ht]
    unfold hexO at h1
    split at h1
    · have := Option.some.inj h1; split <;> omega
    · split at h1
      · have := Option.some.inj h1; split <;> omega
      · cases h1
  · rintro rfl
    unfold hexO
    rw [ht]
    split
    · rw [if_pos (by omega)]; congr 1; omega
    · rw [if_neg (by omega), if_pos (by omega)]; congr 1; omega
theorem hex_lt {n : Nat} (h : hexO c = some n) : n < 16 := by
  unfold hexO at h
  split at h
  · have := Option.some.inj h; omega
  · split at h
    · have := Option.some.inj h; omega
    · cases h
theorem hexc_no {n : Nat} (h : n < 16) {c : UInt8} (hc : hexO c = none) : hexc n ≠ c := fun e => by
  have := (hex_iff h).2 e.symm
  rw [hc] at this; cases this
def shortT (k : Key) : Txt := dec (kbyte k 0) ++ 46 :: (dec (kbyte k 1) ++ 46 :: (dec (kbyte k 2) ++ 46 :: dec (kbyte k 3)))
def nib (k : Key) (i : Nat) : Nat := if i % 2 = 0 then kbyte k (i / 2) / 16 else kbyte k (i / 2) % 16
theorem nib_lt (k : Key) (i : Nat) : nib k i < 16 := by
  have := kbyte_lt k (i / 2)
  unfold nib; split <;> omega
def wideT (k : Key) : Txt := (List.range 32).map fun i => hexc (nib k i)
def keyT (k : Key) (bits : Int) : Txt := if bits = 32 then shortT k else wideT k
def four (a b c d : Nat) : Key := kof fun i => if i = 0 then a else if i = 1 then b else if i = 2 then c else if i = 3 then d else 0
def shortO (s : Txt) : Option Key := match splitL 46 s with
  | [a, b, c, d] => match numO a 255, numO b 255, numO c 255, numO d 255 with
    | some a, some b, some c, some d => some (four a b c d)
    | _, _, _, _ => none
  | _ => none
def allHex (s : Txt) : Bool := s.all fun c => (hexO c).isSome
def hexAt (s : Txt) (i : Nat) : Nat := (hexO (s.getD i 0)).getD 0
def wideK (s : Txt) : Key := kof fun i => 16 * hexAt s (2 * i) + hexAt s (2 * i + 1)
def wideO (s : Txt) : Option Key := if s.length = 32 ∧ allHex s = true then some (wideK s) else none
def keyO (s : Txt) : Option (Key × Int) := match shortO s with
  | some k => some (k, 32)
  | none => (wideO s).map fun k => (k, 128)
theorem four_byte {a b c d : Nat} (ha : a ≤ 255) (hb : b ≤ 255) (hc : c ≤ 255) (hd : d ≤ 255) {i : Nat} (hi : i < 16) : kbyte (four a b c d) i = if i = 0 then a else if i = 1 then b else if i = 2 then c else if i = 3 then d else 0 := by
  rw [four, kbyte_kof _ _ hi]
  split
  · omega
  · split
    · omega
    · split
      · omega
      · split <;> omega
theorem cut32_iff : kcut k 32 = k ↔ ∀ i, 4 ≤ i → i < 16 → kbyte k i = 0 := by
  constructor
  · intro h i h1 h2
    have := kbyte_kcut k 32 i h2
    rw [show kcut k ((32 : Nat) : Int) = k from h] at this
    rw [this, if_neg (by omega)]
    split
    · have hb := kbyte_lt k i
      obtain rfl : i = 4 := by omega
      rw [show (8 - (32 - 8 * 4)) = 8 by decide]; omega
    · rfl
  · intro h
    refine key_ext_byte fun i hi => ?_
    rw [show kcut k 32 = kcut k ((32 : Nat) : Int) from rfl, kbyte_kcut k 32 i hi]
    split
    · rfl
    · have := h i (by omega) hi
      rw [this]; split <;> simp
theorem short_iff : shortO s = some k ↔ kcut k 32 = k ∧ s = shortT k := by
  constructor
  · intro h
    unfold shortO at h
    split at h
    · rename_i a b c d hs
      obtain ⟨u1, e1, _, h1⟩ := split_is_cons hs
      obtain ⟨u2, e2, _, h2⟩ := split_is_cons h1
      obtain ⟨u3, e3, _, h3⟩ := split_is_cons h2
      obtain ⟨e4, _⟩ := split_is_one h3
      split at h
      · rename_i na nb nc nd ha hb hc hd
        obtain ⟨ea, la⟩ := num_iff.1 ha
        obtain ⟨eb, lb⟩ := num_iff.1 hb
        obtain ⟨ec, lc⟩ := num_iff.1 hc
        obtain ⟨ed, ld⟩ := num_iff.1 hd
        obtain rfl := Option.some.inj h
        refine ⟨cut32_iff.2 fun i h1 h2 => ?_, ?_⟩
        · rw [four_byte la lb lc ld h2, if_neg (by omega), if_neg (by omega), if_neg (by omega), if_neg (by omega)]
        · rw [shortT, four_byte la lb lc ld (by decide), four_byte la lb lc ld (by decide), four_byte la lb lc ld (by decide), four_byte la lb lc ld (by decide)]
          simp only [if_true, Nat.one_ne_zero, if_false, (by decide : (2 : Nat) ≠ 0), (by decide : (2 : Nat) ≠ 1), (by decide : (3 : Nat) ≠ 0), (by decide : (3 : Nat) ≠ 1), (by decide : (3 : Nat) ≠ 2)]
          rw [e1, e2, e3, e4, ea, eb, ec, ed]
      · cases h
    · cases h
  · rintro ⟨h, rfl⟩
    have hn : ∀ n, (46 : UInt8) ∉ dec n := fun n => dec_no (by decide)
    have hs : splitL 46 (shortT k) = [dec (kbyte k 0), dec (kbyte k 1), dec (kbyte k 2), dec (kbyte k 3)] := by
      rw [shortT, split_two (hn _), split_two (hn _), split_two (hn _), split_one (hn _)]
    have hl : ∀ i, kbyte k i ≤ 255 := fun i => by have := kbyte_lt k i; omega
    have e : shortO (shortT k) = some (four (kbyte k 0) (kbyte k 1) (kbyte k 2) (kbyte k 3)) := by
      unfold shortO
      rw [hs]
      simp only [num_dec (hl _)]
    rw [e]
    refine congrArg some (key_ext_byte fun i hi => ?_)
    rw [four_byte (hl _) (hl _) (hl _) (hl _) hi]
    rcases Nat.lt_or_ge i 4 with h4 | h4
    · have : i = 0 ∨ i = 1 ∨ i = 2 ∨ i = 3 := by omega
      rcases this with rfl | rfl | rfl | rfl <;> simp
    · rw [if_neg (by omega), if_neg (by omega), if_neg (by omega), if_neg (by omega), cut32_iff.1 h i h4 hi]
theorem wide_get (k : Key) {i : Nat} (h : i < 32) : (wideT k)[i]? = some (hexc (nib k i)) := by simp [wideT, h]
theorem wide_len (k : Key) : (wideT k).length = 32 := by simp [wideT]
theorem wide_hex (k : Key) {i : Nat} (h : i < 32) : hexAt (wideT k) i = nib k i := by
  unfold hexAt
  rw [List.getD, wide_get k h, Option.getD_some, (hex_iff (nib_lt k i)).2 rfl]; rfl
theorem wide_all (k : Key) : allHex (wideT k) = true := by
  unfold allHex wideT
  rw [List.all_map, List.all_eq_true]
  intro i _
  simp only [Function.comp]
  rw [(hex_iff (nib_lt k i)).2 rfl]; rfl
theorem wide_iff : wideO s = some k ↔ s = wideT k := by
  constructor
  · intro h
    unfold wideO at h
    split at h
    · rename_i h1
      obtain ⟨hl, ha⟩ := h1
      obtain rfl := Option.some.inj h
      have hh : ∀ i, i < 32 → ∃ n, n < 16 ∧ s[i]? = some (hexc n) ∧ hexAt s i = n := fun i hi => by
        have hil : i < s.length := by omega
        have hm : s[i]? = some (s.getD i 0) := by simp [List.getD, hil]
        have := List.all_eq_true.1 ha _ (List.mem_of_getElem? hm)
        obtain ⟨n, hn⟩ := Option.isSome_iff_exists.1 this
        have hlt := hex_lt hn
        exact ⟨n, hlt, by rw [hm, (hex_iff hlt).1 hn], by rw [hexAt, hn]; rfl⟩
      have hb : ∀ j, j < 16 → kbyte (wideK s) j = 16 * hexAt s (2 * j) + hexAt s (2 * j + 1) := fun j hj => by
        obtain ⟨n, h1, _, h2⟩ := hh (2 * j) (by omega)
        obtain ⟨m, h3, _, h4⟩ := hh (2 * j + 1) (by omega)
        rw [wideK, kbyte_kof _ _ hj]; omega
      refine List.ext_getElem? fun i => ?_
      rcases Nat.lt_or_ge i 32 with hi | hi
      · obtain ⟨n, h1, h2, h3⟩ := hh i hi
        rw [h2, wide_get _ hi]
        have hn : nib (wideK s) i = n := by
          unfold nib
          rw [hb (i / 2) (by omega)]
          have hlo := fun j (hj : j < 32) => hh j hj
          split
          · rename_i he
            obtain ⟨m, h5, _, h6⟩ := hh (2 * (i / 2) + 1) (by omega)
            rw [show 2 * (i / 2) = i by omega, h3, show i + 1 = 2 * (i / 2) + 1 by omega, h6]; omega
          · rename_i he
            obtain ⟨m, h5, _, h6⟩ := hh (2 * (i / 2)) (by omega)
            rw [show 2 * (i / 2) + 1 = i by omega, h3, h6]; omega
        rw [hn]
      · rw [List.getElem?_eq_none (by omega), List.getElem?_eq_none (by rw [wide_len]; omega)]
    · cases h
  · rintro rfl
    unfold wideO
    rw [if_pos ⟨wide_len k, wide_all k⟩]
    congr 1
    refine key_ext_byte fun j hj => ?_
    rw [wideK, kbyte_kof _ _ hj, wide_hex k (by omega), wide_hex k (by omega)]
    have hb := kbyte_lt k j
    have e1 : nib k (2 * j) = kbyte k j / 16 := by unfold nib; rw [if_pos (by omega), show 2 * j / 2 = j by omega]
    have e2 : nib k (2 * j + 1) = kbyte k j % 16 := by unfold nib; rw [if_neg (by omega), show (2 * j + 1) / 2 = j by omega]
    rw [e1, e2]; omega
theorem wide_no (k : Key) {c : UInt8} (hc : hexO c = none) : c ∉ wideT k := fun h => by
  obtain ⟨i, _, hi⟩ := List.mem_map.1 h
  exact hexc_no (nib_lt k i) hc hi
theorem wide_not_short (k : Key) : shortO (wideT k) = none := by
  unfold shortO
  rw [split_one (wide_no k (by decide))]
theorem key_iff {b : Int} : keyO s = some (k, b) ↔ pmay ⟨b, b, k⟩ = true ∧ s = keyT k b := by
  rw [pmay_iff]
  simp only
  constructor
  · intro h
    unfold keyO at h
    split at h
    · rename_i k' hk
      obtain ⟨rfl, rfl⟩ := Prod.mk.inj (Option.some.inj h)
      obtain ⟨h1, h2⟩ := short_iff.1 hk
      exact ⟨⟨.inl rfl, by decide, Int.le_refl _, h1⟩, by rw [keyT, if_pos rfl]; exact h2⟩
    · obtain ⟨k', hk, he⟩ := Option.map_eq_some_iff.1 h
      obtain ⟨rfl, rfl⟩ := Prod.mk.inj he
      exact ⟨⟨.inr rfl, by decide, Int.le_refl _, kcut_all _ _ (Int.le_refl _)⟩, by rw [keyT, if_neg (by decide)]; exact wide_iff.1 hk⟩
  · rintro ⟨⟨h1, _, _, h2⟩, rfl⟩
    rcases h1 with rfl | rfl
    · rw [keyT, if_pos rfl, keyO, short_iff.2 ⟨h2, rfl⟩]
    · rw [keyT, if_neg (by decide), keyO, wide_not_short, wide_iff.2 rfl]; rfl
def pfxT (p : Pfx) : Txt := keyT p.key p.bits ++ 47 :: dec p.len.toNat
def pfxO (s : Txt) : Option Pfx := match splitL 47 s with
  | [a, b] => match keyO a, numO b 128 with
    | some (k, bits), some n => if pmay ⟨bits, (n : Int), k⟩ = true then some ⟨bits, (n : Int), k⟩ else none
    | _, _ => none
  | _ => none
theorem key_no {k : Key} {b : Int} {c : UInt8} (h1 : hexO c = none) (h2 : c ≠ 46) (h3 : dig c = false) : c ∉ keyT k b := by
  unfold keyT
  split
  · unfold shortT
    have hn : ∀ n, c ∉ dec n := fun n => dec_no h3
    simp [hn, h2]
  · exact wide_no k h1
theorem may_whole {p : Pfx} (h : pmay p = true) : pmay ⟨p.bits, p.bits, p.key⟩ = true := by
  obtain ⟨h1, h2, h3, h4⟩ := (pmay_iff p).1 h
  refine (pmay_iff _).2 ⟨h1, by simp only; omega, Int.le_refl _, ?_⟩
  show kcut p.key p.bits = p.key
  conv => lhs; rw [← h4]
  rw [kcut_cut, show min p.len p.bits = p.len by omega, h4]
theorem pfx_iff {p : Pfx} : pfxO s = some p ↔ pmay p = true ∧ s = pfxT p := by
  constructor
  · intro h
    unfold pfxO at h
    split at h
    · rename_i a b hs
      obtain ⟨u, e1, _, h1⟩ := split_is_cons hs
      obtain ⟨e2, _⟩ := split_is_one h1
      split at h
      · rename_i k bits n hk hn
        split at h
        · rename_i hm
          obtain rfl := Option.some.inj h
          refine ⟨hm, ?_⟩
          obtain ⟨_, ek⟩ := key_iff.1 hk
          obtain ⟨en, _⟩ := num_iff.1 hn
          rw [pfxT, e1, e2, ek, en]; rfl
        · cases h
      · cases h
    · cases h
  · rintro ⟨hm, rfl⟩
    obtain ⟨h1, h2, h3, h4⟩ := (pmay_iff p).1 hm
    unfold pfxO
    rw [pfxT, split_two (key_no (by decide) (by decide) (by decide)), split_one (dec_no (by decide))]
    simp only [key_iff.2 ⟨may_whole hm, rfl⟩]
    rw [num_dec (by rcases h1 with h | h <;> omega)]
    have e : (⟨p.bits, ((p.len.toNat : Nat) : Int), p.key⟩ : Pfx) = p := by
      obtain ⟨b, l, k⟩ := p
      simp only at h2 ⊢
      rw [Int.toNat_of_nonneg h2]
    simp only [e, hm, if_true]
def lineT (r : Rt) : Txt := pfxT r.p ++ 32 :: dec r.hop.toNat
def lineO (s : Txt) : Option Rt := match splitL 32 s with
  | [a, b] => match pfxO a, numO b 65535 with
    | some p, some n => some ⟨p, UInt16.ofNat n⟩
    | _, _ => none
  | _ => none
theorem pfx_no {p : Pfx} : (32 : UInt8) ∉ pfxT p := by
  unfold pfxT
  rw [List.mem_append, List.mem_cons]
  rintro (h | h | h)
  · exact key_no (by decide) (by decide) (by decide) h
  · cases h
  · exact dec_no (by decide) h
theorem line_iff {r : Rt} : lineO s = some r ↔ pmay r.p = true ∧ s = lineT r := by
  constructor
  · intro h
    unfold lineO at h
    split at h
    · rename_i a b hs
      obtain ⟨u, e1, _, h1⟩ := split_is_cons hs
      obtain ⟨e2, _⟩ := split_is_one h1
      split at h
      · rename_i p n hp hn
        obtain rfl := Option.some.inj h
        obtain ⟨hm, ep⟩ := pfx_iff.1 hp
        obtain ⟨en, ln⟩ := num_iff.1 hn
        refine ⟨hm, ?_⟩
        rw [lineT, e1, e2, ep, en]
        have : (UInt16.ofNat n).toNat = n := by rw [UInt16.toNat_ofNat']; omega
        simp only [this]
      · cases h
    · cases h
  · rintro ⟨hm, rfl⟩
    unfold lineO
    rw [lineT, split_two pfx_no, split_one (dec_no (by decide))]
    simp only [pfx_iff.2 ⟨hm, rfl⟩]
    rw [num_dec (by have := r.hop.toNat_lt; omega)]
    simp only [UInt16.ofNat_toNat]
theorem key_len {k : Key} {b : Int} : (keyT k b).length ≤ 32 := by
  unfold keyT
  split
  · unfold shortT
    have hl : ∀ i, (dec (kbyte k i)).length ≤ 3 := fun i => dec_len 3 _ (by have := kbyte_lt k i; omega) (by decide)
    have h0 := hl 0; have h1 := hl 1; have h2 := hl 2; have h3 := hl 3
    simp only [List.length_append, List.length_cons]; omega
  · rw [wide_len]; omega
theorem pfx_len {p : Pfx} (h : pmay p = true) : (pfxT p).length ≤ 36 := by
  obtain ⟨h1, h2, h3, _⟩ := (pmay_iff p).1 h
  have := key_len (k := p.key) (b := p.bits)
  have hd := dec_len 3 p.len.toNat (by rcases h1 with h | h <;> omega) (by decide)
  unfold pfxT
  simp only [List.length_append, List.length_cons]; omega
theorem line_len {r : Rt} (h : pmay r.p = true) : (lineT r).length ≤ 42 := by
  have := pfx_len h
  have hd := dec_len 5 r.hop.toNat (by have := r.hop.toNat_lt; omega) (by decide)
  unfold lineT
  simp only [List.length_append, List.length_cons]; omega
end Go.Kb
