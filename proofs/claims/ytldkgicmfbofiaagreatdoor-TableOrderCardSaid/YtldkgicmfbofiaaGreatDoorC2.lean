/- Texts: their bytes, parts and sums. -/
import Derived.Test.YtldkgicmfbofiaaGreatDoorC1
import Derived.Laws.DeepStrings4
import Derived.Laws.Runes
import Derived.Lib.Strings
import Derived.Lib.SplitLaws
import Derived.Lib.CutLaws
import GoSem.Core.Value
import Derived.Lib.Join
import Derived.Test.YtldkgicmfbofiaaGreatDoorRows
import Derived.Shelf.Strings.Builder1
import Derived.Shelf.Strings.Builder2
import Derived.Shelf.Strings.OnBuilder
import Derived.Shelf.Small.Strs
import Derived.Shelf.Utf8.RuneCount
import Derived.Shelf.Strconv.Itoa0
import Derived.Shelf.Strconv.Itoa1
import Derived.Shelf.LaysM
import Derived.Shelf.Strconv.Itoa2
import Derived.Shelf.Strconv.Itoa3
import Derived.Shelf.Strings.Search1
import Derived.Shelf.Strings.Search2
import Derived.Shelf.Strings.Search3
import Derived.Shelf.Strings.Cut
import Derived.Shelf.Strings.Count
import Derived.Shelf.Strings.Shaped
import Derived.Shelf.Strings.Split
import Derived.Shelf.Strings.SplitShaped
import Derived.Shelf.Unicode.Decode
import Derived.Shelf.Strings.RuneCount
import Derived.Shelf.Strings.Explode
import Derived.Shelf.Unicode.DecodeSlow
import Derived.Shelf.Unicode.DecodeAny
import Derived.Test.YtldkgicmfbofiaaGreatDoorProg
import Derived.DeepKeys

set_option linter.unusedSimpArgs false
set_option linter.unusedVariables false
namespace Go.Eng
open Go.RowKit
def txc (s : Txt) : Array Value := #[.string ⟨s.toArray⟩]
instance : Enc txc 1 := ⟨fun _ => rfl, fun s => by simp [txc, Value.oneCell']⟩
instance : Deep Txt := Deep.flat txc 1
instance : FlatT Txt txc 1 := ⟨rfl, fun _ => rfl⟩
instance (s : Txt) : CellAt (txc s) 0 (.string ⟨s.toArray⟩) := ⟨rfl⟩
theorem tx_size (s : Txt) : (⟨s.toArray⟩ : ByteArray).size = s.length := by simp [ByteArray.size]
theorem tx_get (s : Txt) (i : Nat) : (⟨s.toArray⟩ : ByteArray)[i]? = s[i]? := by
  by_cases h : i < s.length
  · rw [ByteArray.getElem?_lt' _ _ (by rw [tx_size]; exact h), List.getElem?_eq_getElem h]
    rfl
  · rw [ByteArray.getElem?_ge' _ _ (by rw [tx_size]; exact h), List.getElem?_eq_none (by omega)]
theorem tx_sub (s : Txt) (a b : Nat) : (⟨s.toArray⟩ : ByteArray).extract a b = ⟨((s.drop a).take (b - a)).toArray⟩ := by
  have h := Lib.extract_data (⟨s.toArray⟩ : ByteArray) a b
  have : ((⟨s.toArray⟩ : ByteArray).extract a b).data = ((s.drop a).take (b - a)).toArray := by
    apply Array.ext'
    rw [h]
  cases e : (⟨s.toArray⟩ : ByteArray).extract a b with
  | mk d => rw [e] at this; rw [← this]
theorem tx_add (a b : Txt) : (⟨a.toArray⟩ : ByteArray) ++ ⟨b.toArray⟩ = ⟨(a ++ b).toArray⟩ := by
  have : ((⟨a.toArray⟩ : ByteArray) ++ ⟨b.toArray⟩).data = (a ++ b).toArray := by
    rw [ByteArray.data_append]; simp
  cases e : (⟨a.toArray⟩ : ByteArray) ++ ⟨b.toArray⟩ with
  | mk d => rw [e] at this; rw [← this]
theorem tx_inj {a b : Txt} (h : (⟨a.toArray⟩ : ByteArray) = ⟨b.toArray⟩) : a = b := by
  have := congrArg (fun z : ByteArray => z.data.toList) h
  simpa using this
theorem tx_of (s : ByteArray) : s = ⟨s.data.toList.toArray⟩ := by cases s; simp
theorem split_len (c : UInt8) : ∀ s : Txt, (splitL c s).length ≤ s.length + 1
  | [] => by simp [splitL]
  | x :: s => by
    have ih := split_len c s
    rw [splitL]
    split
    · simp; omega
    · split
      · simp
      · rename_i p r h
        rw [h] at ih
        simp at ih ⊢; omega
section
variable {P : Program} {N : Fra} {w0 : World} {env : Env} {L : List Ent} {d : Option Tmp} {ty t u : TypeId} {ps : String} {af : Array Edge} {gd : Option (Nat × Bool)} {x y lo hi : Operand} {k k' : IntKind} {a b s : Txt}
theorem ry_lenT (ht : P.underlying t = some .string) (hx : ev env x = some (.string ⟨s.toArray⟩)) :
    Ry P N w0 env L ⟨d, .call { callee := .builtin .len, args := #[x], argTypes := #[t] }, ty, ps, af, gd⟩ (.int .i64 (s.length : Nat)) := fun aa w ha _ => by
  have h : (Builtin.len_ #[t] ty #[.string ⟨s.toArray⟩]).run P w = .ok (goInt s.length) w := by
    rw [run_len_string w t ty _ ht, tx_size]
  simp [execOp, ha.ev hx, resolve, invoke, builtin, h, Result.andThen, goInt]
theorem ry_idxT {j : Int} (i : Nat) (hu : P.underlying t = some .string) (hx : ev env x = some (.string ⟨s.toArray⟩)) (hj : ev env y = some (.int k j)) (ej : j = (i : Int)) (h : i < s.length) :
    Ry P N w0 env L ⟨d, .index t x y, ty, ps, af, gd⟩ (.int .u8 ((s.getD i 0).toNat : Nat)) := ry_idxStr hu hx hj (by omega) (by
  subst ej
  rw [tx_get, Int.toNat_natCast, List.getElem?_eq_getElem h]
  simp [List.getD, h])
theorem ry_strcat (hx : ev env x = some (.string ⟨a.toArray⟩)) (hy : ev env y = some (.string ⟨b.toArray⟩)) (h : a.length + b.length < 4294967296) :
    Ry P N w0 env L ⟨d, .binOp .add t x y u, ty, ps, af, gd⟩ (.string ⟨(a ++ b).toArray⟩) := fun aa w ha _ => by
  have h2 : (eqGuard BinOp.add t x y (.string ⟨a.toArray⟩) (.string ⟨b.toArray⟩)).run P w = .ok () w := rfl
  have hl : ¬ (((⟨a.toArray⟩ : ByteArray).size + (⟨b.toArray⟩ : ByteArray).size : Nat) : Int) > IntKind.i64.max := by
    rw [tx_size, tx_size, show IntKind.i64.max = 9223372036854775807 from rfl]; omega
  have h3 : (Op.stringOp .add (⟨a.toArray⟩ : ByteArray) ⟨b.toArray⟩).run P w = .ok (.string ⟨(a ++ b).toArray⟩) w := by
    simp only [Op.stringOp, hl, if_false, tx_add]; rfl
  simp only [execOp, ha.ev hx, ha.ev hy, Sem.run_bind, h2, Result.andThen_ok, binOp_string_add, h3, Sem.run_pure]
theorem ry_strsub {p q : Int} (l h : Nat) (ht : P.underlying t = some .string) (hx : ev env x = some (.string ⟨s.toArray⟩)) (hl : ev env lo = some (.int k p)) (hh : ev env hi = some (.int k' q)) (el : p = (l : Int)) (eh : q = (h : Int)) (h1 : l ≤ h) (h2 : h ≤ s.length) :
    Ry P N w0 env L ⟨d, .slice t x (some lo) (some hi) none, ty, ps, af, gd⟩ (.string ⟨((s.drop l).take (h - l)).toArray⟩) := fun aa w ha _ => by
  subst el; subst eh
  have hr := run_slice_string_if (P := P) w t ⟨s.toArray⟩ k k' l h ht
  rw [if_pos ⟨by omega, by rw [tx_size]; omega⟩, if_pos ⟨by omega, by omega⟩, Int.toNat_natCast, Int.toNat_natCast, tx_sub] at hr
  have e1 : ((some lo).map aa.eval : Option Value) = some (.int k l) := by simp [ha.ev hl]
  have e2 : ((some hi).map aa.eval : Option Value) = some (.int k' h) := by simp [ha.ev hh]
  simp only [execOp, ha.ev hx, e1, e2, Option.map_none, run_sliceAt_string (h := ht), hr, Sem.run_bind, Result.andThen, Sem.run_pure]
theorem Ry.as {o : Oper} {v v' : Value} (h : Ry P N w0 env L o v) (e : v = v') : Ry P N w0 env L o v' := e ▸ h
theorem ry_strhi {q : Int} (h : Nat) (ht : P.underlying t = some .string) (hx : ev env x = some (.string ⟨s.toArray⟩)) (hh : ev env hi = some (.int k' q)) (eh : q = (h : Int)) (h2 : h ≤ s.length) :
    Ry P N w0 env L ⟨d, .slice t x none (some hi) none, ty, ps, af, gd⟩ (.string ⟨(s.take h).toArray⟩) := fun aa w ha _ => by
  subst eh
  have hr := run_slice_string_h (P := P) (w := w) t ⟨s.toArray⟩ ht k' h (by omega) (by rw [tx_size]; omega)
  rw [Int.toNat_natCast, tx_sub, Nat.sub_zero, List.drop_zero] at hr
  simp only [execOp, ha.ev hx, ha.ev hh, Option.map_some, Option.map_none, run_sliceAt_string (h := ht), hr, Sem.run_bind, Result.andThen, Sem.run_pure]
theorem ry_shl16 {p : Nat} {v1 v2 : Int} (hx : ev env x = some (.int .u8 v1)) (hy : ev env y = some (.int k' v2)) (ea : v1 = p) (hp : p < 16) (eb : v2 = 4 := by rfl) :
    Ry P N w0 env L ⟨d, .binOp .shl t x y u, ty, ps, af, gd⟩ (.int .u8 ((p * 16 : Nat) : Int)) := by
  subst ea eb
  refine Ry.as (ry_shl hx hy (by decide)) (congrArg (Value.int .u8) ?_)
  have e : ((p : Int) * 2 ^ min (4 : Int).toNat IntKind.u8.bits) = ((p * 16 : Nat) : Int) := by
    rw [show (2 : Int) ^ min (4 : Int).toNat IntKind.u8.bits = 16 by decide]; omega
  rw [e]; exact wrap_nat (by simp only [nb]; omega)
theorem ry_subn {p q : Nat} {v1 v2 : Int} (hx : ev env x = some (.int k v1)) (hy : ev env y = some (.int k v2)) (ea : v1 = p) (eb : v2 = q) (h : q ≤ p) (h2 : p < 2 ^ nb k := by first | (simp only [nb]; omega) | exact (UInt8.toNat_lt _)) :
    Ry P N w0 env L ⟨d, .binOp .sub t x y u, ty, ps, af, gd⟩ (.int k ((p - q : Nat) : Int)) := ry_int hx hy (by
  subst ea eb
  rw [intOp, show (p : Int) - (q : Int) = ((p - q : Nat) : Int) by omega, wrap_nat (by omega)])
theorem ry_rune {n : Nat} (hs : (P.underlying t).isSome = true) (hd : P.underlying u = some .string) (hx : ev env x = some (.int k n)) (h : n < 128) :
    Ry P N w0 env L ⟨d, .convert t u x, ty, ps, af, gd⟩ (.string ⟨[UInt8.ofNat n].toArray⟩) := fun aa w ha _ => by
  have hr := run_convert_int_string (P := P) w t u k n hs hd
  have he : Utf8.encode (n : Int) = ⟨[UInt8.ofNat n].toArray⟩ := by
    have hv : Utf8.valid (n : Int) = true := by simp [Utf8.valid]; omega
    unfold Utf8.encode
    simp only [hv, if_true, Int.toNat_natCast, h]
  rw [he] at hr
  simp only [execOp, ha.ev hx, Sem.run_bind, hr, Result.andThen, Sem.run_pure]
end
end Go.Eng

/- The library's words for cutting a text, told by ours. No program in sight. -/
namespace Go.Eng
variable {s a b : Txt} {c : UInt8}
theorem idx_none (h : c ∉ s) : Lib.index s [c] = -1 := by
  induction s with
  | nil => rfl
  | cons x s ih =>
    have hx : x ≠ c := fun e => h (by simp [e])
    have hp : ([c] : Txt).isPrefixOf (x :: s) = false := by
      simp only [List.isPrefixOf, Bool.and_true]
      simpa using fun e => hx e.symm
    rw [Lib.index, hp, ih (fun hc => h (List.mem_cons_of_mem _ hc))]; rfl
theorem idx_some (h : c ∉ a) : Lib.index (a ++ c :: b) [c] = (a.length : Int) := by
  induction a with
  | nil =>
    rw [List.nil_append, Lib.index, if_pos (by simp [List.isPrefixOf])]; rfl
  | cons x a ih =>
    have hx : x ≠ c := fun e => h (by simp [e])
    have hp : ([c] : Txt).isPrefixOf (x :: (a ++ c :: b)) = false := by
      simp only [List.isPrefixOf, Bool.and_true]
      simpa using fun e => hx e.symm
    rw [List.cons_append, Lib.index, hp, ih (fun hc => h (List.mem_cons_of_mem _ hc)), if_neg (by simp), if_neg (by simp only [beq_iff_eq]; omega)]
    simp
def cutL (c : UInt8) (s : Txt) : Txt × Txt × Bool := Lib.cut s [c]
theorem cut_none (h : c ∉ s) : cutL c s = (s, [], false) := by
  rw [cutL, Lib.cut, idx_none h, if_neg (by decide)]
theorem cut_some (h : c ∉ a) : cutL c (a ++ c :: b) = (a, b, true) := by
  rw [cutL, Lib.cut, idx_some h, if_pos (by omega)]
  simp
theorem splitB_L (c : UInt8) : ∀ (n : Nat) (s : ByteArray), s.size ≤ n → (Lib.splitB ⟨#[c]⟩ 0 (Lib.countB s ⟨#[c]⟩) s).map (·.data.toList) = splitL c s.data.toList := by
  intro n
  induction n with
  | zero =>
    intro s hs
    have hz : s.data.toList = [] := by
      apply List.length_eq_zero_iff.1
      have := Lib.size_eq s; omega
    have hi : Lib.indexB s ⟨#[c]⟩ = -1 := by
      show Lib.index s.data.toList [c] = -1
      rw [hz]; rfl
    rw [Lib.splitB_miss _ _ _ _ hi, hz]
    simp [hz, splitL]
  | succ n ih =>
    intro s hs
    rcases split_cases (c := c) s.data.toList with ⟨h1, h2⟩ | ⟨a, b, h1, h2, h3⟩
    · have hi : Lib.indexB s ⟨#[c]⟩ = -1 := idx_none h1
      rw [Lib.splitB_miss _ _ _ _ hi, h2]; rfl
    · have hi : Lib.indexB s ⟨#[c]⟩ = (a.length : Int) := by
        show Lib.index s.data.toList [c] = _
        rw [h1]; exact idx_some h2
      have hsz : (⟨#[c]⟩ : ByteArray).size = 1 := rfl
      have hlen : s.size = a.length + (b.length + 1) := by rw [Lib.size_eq, h1]; simp
      rw [Lib.countB_hit s _ a.length (by rw [hsz]; decide) hi, Nat.add_comm 1, Lib.splitB, if_neg (by rw [hi]; simp only [beq_iff_eq]; omega), hi, h3]
      have e1 : ((a.length : Int)).toNat = a.length := by omega
      rw [e1, List.map_cons]
      have ed : ∀ x y : Nat, (s.extract x y).data.toList = (s.data.toList.drop x).take (y - x) := fun x y => Lib.extract_data s x y
      have e2 : (s.extract 0 (a.length + 0)).data.toList = a := by rw [ed, h1]; simp
      have e3 : (s.extract (a.length + (⟨#[c]⟩ : ByteArray).size) s.size).data.toList = b := by
        rw [ed, h1, hsz, hlen]
        simp
        exact List.take_of_length_le (by omega)
      rw [e2, ih _ (by have := Lib.size_eq (s.extract (a.length + (⟨#[c]⟩ : ByteArray).size) s.size); rw [e3] at this; omega), e3]
theorem splitB_length (c : UInt8) (s : ByteArray) : Lib.countB s ⟨#[c]⟩ + 1 = (splitL c s.data.toList).length := by
  rw [← splitB_L c s.size s (Nat.le_refl _), List.length_map, Lib.splitB_all _ (Nat.le_refl _) 0 _ s rfl]
end Go.Eng

/- Keys of 128 bits, their bytes and bits; what a prefix says of them. No program in sight. -/
namespace Go.Kb

abbrev Key := BitVec 128

def kbyte (k : Key) (i : Nat) : Nat := k.toNat / 2 ^ (8 * (15 - i)) % 2 ^ 8
theorem kbyte_lt (k : Key) (i : Nat) : kbyte k i < 256 := Nat.mod_lt _ (by decide)

theorem kbyte_testBit (k : Key) (i j : Nat) (hj : j < 8) : (kbyte k i).testBit j = k.toNat.testBit (8 * (15 - i) + j) := by
  unfold kbyte
  rw [Nat.testBit_mod_two_pow, Nat.testBit_div_two_pow]
  simp [hj, Nat.add_comm]

theorem msb_eq (k : Key) (n : Nat) (h : n < 128) : k.getMsbD n = k.toNat.testBit (127 - n) := by
  simp only [BitVec.getMsbD, BitVec.getLsbD, h, decide_true, Bool.true_and]

theorem msb_kbyte (k : Key) (n : Nat) (h : n < 128) : k.getMsbD n = (kbyte k (n / 8)).testBit (7 - n % 8) := by
  rw [msb_eq k n h, kbyte_testBit k (n / 8) (7 - n % 8) (by omega)]
  congr 1; omega

theorem msb_out (k : Key) (n : Nat) (h : 128 ≤ n) : k.getMsbD n = false := by
  simp only [BitVec.getMsbD]; simp; omega

theorem key_ext {a b : Key} (h : ∀ n, n < 128 → a.getMsbD n = b.getMsbD n) : a = b := BitVec.eq_of_getMsbD_eq fun i hi => h i hi

theorem byte_ext {x y : Nat} (hx : x < 256) (hy : y < 256) (h : ∀ j, j < 8 → x.testBit j = y.testBit j) : x = y := by
  refine Nat.eq_of_testBit_eq fun j => ?_
  rcases Nat.lt_or_ge j 8 with hj | hj
  · exact h j hj
  · have hp : 2 ^ 8 ≤ 2 ^ j := Nat.pow_le_pow_right (by decide) hj
    rw [Nat.testBit_lt_two_pow (Nat.lt_of_lt_of_le hx hp), Nat.testBit_lt_two_pow (Nat.lt_of_lt_of_le hy hp)]

theorem key_ext_byte {a b : Key} (h : ∀ i, i < 16 → kbyte a i = kbyte b i) : a = b :=
  key_ext fun n hn => by rw [msb_kbyte a n hn, msb_kbyte b n hn, h (n / 8) (by omega)]

theorem kbyte_of_bits {k : Key} {i x : Nat} (hi : i < 16) (hx : x < 256) (h : ∀ m, m < 8 → k.getMsbD (8 * i + m) = x.testBit (7 - m)) : kbyte k i = x :=
  byte_ext (kbyte_lt k i) hx fun j hj => by
    have := h (7 - j) (by omega)
    rw [msb_kbyte k _ (by omega), show (8 * i + (7 - j)) / 8 = i by omega, show 7 - (8 * i + (7 - j)) % 8 = j by omega, show 7 - (7 - j) = j by omega] at this
    exact this

def kof (f : Nat → Nat) : Key := BitVec.ofNat 128 ((List.range 16).foldl (fun a i => a * 2 ^ 8 + f i % 2 ^ 8) 0)

theorem fold_lt (f : Nat → Nat) : ∀ n, (List.range n).foldl (fun a i => a * 2 ^ 8 + f i % 2 ^ 8) 0 < 2 ^ (8 * n)
  | 0 => by simp
  | n + 1 => by
    rw [List.range_succ, List.foldl_append]
    have := fold_lt f n
    have h2 : f n % 2 ^ 8 < 2 ^ 8 := Nat.mod_lt _ (by decide)
    simp only [List.foldl_cons, List.foldl_nil]
    rw [Nat.mul_add, Nat.mul_one, Nat.pow_add]
    omega

theorem fold_byte (f : Nat → Nat) : ∀ n i, i < n → (List.range n).foldl (fun a i => a * 2 ^ 8 + f i % 2 ^ 8) 0 / 2 ^ (8 * (n - 1 - i)) % 2 ^ 8 = f i % 2 ^ 8
  | 0, i, h => by omega
  | n + 1, i, h => by
    rw [List.range_succ, List.foldl_append]
    simp only [List.foldl_cons, List.foldl_nil]
    generalize hF : (List.range n).foldl (fun a i => a * 2 ^ 8 + f i % 2 ^ 8) 0 = F
    by_cases hi : i = n
    · subst hi
      rw [show i + 1 - 1 - i = 0 by omega]
      simp
    · have ih := fold_byte f n i (by omega)
      rw [hF] at ih
      rw [show 8 * (n + 1 - 1 - i) = 8 + 8 * (n - 1 - i) by omega, Nat.pow_add, ← Nat.div_div_eq_div_mul]
      have : (F * 2 ^ 8 + f n % 2 ^ 8) / 2 ^ 8 = F := by
        have h2 : f n % 2 ^ 8 < 2 ^ 8 := Nat.mod_lt _ (by decide)
        omega
      rw [this]; exact ih

theorem kbyte_kof (f : Nat → Nat) (i : Nat) (h : i < 16) : kbyte (kof f) i = f i % 2 ^ 8 := by
  unfold kbyte kof
  have e : ((List.range 16).foldl (fun a i => a * 2 ^ 8 + f i % 2 ^ 8) 0) % 2 ^ 128 = (List.range 16).foldl (fun a i => a * 2 ^ 8 + f i % 2 ^ 8) 0 := Nat.mod_eq_of_lt (fold_lt f 16)
  rw [BitVec.toNat_ofNat, e]
  exact fold_byte f 16 i h

def kset (k : Key) (i x : Nat) : Key := kof fun j => if j = i then x else kbyte k j
theorem kbyte_kset (k : Key) (i x j : Nat) (hj : j < 16) (hx : x < 256) : kbyte (kset k i x) j = if j = i then x else kbyte k j := by
  unfold kset
  rw [kbyte_kof _ j hj]
  split
  · omega
  · have := kbyte_lt k j; omega

/-! The key as cells. -/
def kcells (k : Key) : Array Value := ((List.range 16).map fun i => Value.int .u8 (kbyte k i)).toArray
theorem kcells_size (k : Key) : (kcells k).size = 16 := by unfold kcells; simp
theorem kcells_get (k : Key) (i : Nat) (h : i < 16) : (kcells k)[i]? = some (.int .u8 (kbyte k i)) := by unfold kcells; simp [h]
theorem kcells_none (k : Key) (i : Nat) (h : 16 ≤ i) : (kcells k)[i]? = none := by unfold kcells; simp; omega

theorem eq_kcells {A : Array Value} {k : Key} (hs : A.size = 16) (h : ∀ i, i < 16 → A[i]? = some (.int .u8 (kbyte k i))) : A = kcells k := by
  apply Array.ext_getElem?
  intro i
  rcases Nat.lt_or_ge i 16 with hi | hi
  · rw [h i hi, kcells_get k i hi]
  · rw [kcells_none k i hi]; simp; omega

theorem kcells_set (k : Key) (i x : Nat) (hi : i < 16) (hx : x < 256) : (kcells k).setIfInBounds i (.int .u8 x) = kcells (kset k i x) := by
  refine eq_kcells (by simp [kcells_size]) fun j hj => ?_
  rw [Array.getElem?_setIfInBounds, kbyte_kset k i x j hj hx]
  by_cases h : i = j
  · subst h; simp [kcells_size, hi]
  · rw [if_neg h, if_neg (fun e => h e.symm), kcells_get k j hj]

theorem kcells_inj {a b : Key} (h : kcells a = kcells b) : a = b := key_ext_byte fun i hi => by
  have h1 := kcells_get a i hi
  rw [h, kcells_get b i hi] at h1
  simp at h1; omega

/-! Cut. -/
def kcut (k : Key) (n : Int) : Key := if n < 1 then 0#128 else (k >>> (128 - n.toNat)) <<< (128 - n.toNat)

theorem kcut_msb (k : Key) (n : Int) (i : Nat) : (kcut k n).getMsbD i = (decide ((i : Int) < n) && k.getMsbD i) := by
  unfold kcut
  split
  · have : ¬ ((i : Int) < n) := by omega
    simp [this]
  · rcases Nat.lt_or_ge i 128 with hi | hi
    · rw [BitVec.getMsbD_shiftLeft, BitVec.getMsbD_ushiftRight]
      by_cases hn : (i : Int) < n
      · have h1 : i + (128 - n.toNat) < 128 := by omega
        have h2 : i + (128 - n.toNat) - (128 - n.toNat) = i := by omega
        simp [hn, h1, h2]
      · have h1 : ¬ i + (128 - n.toNat) < 128 := by omega
        simp [hn, h1]
    · rw [msb_out _ _ hi, msb_out _ _ hi]; simp

theorem kcut_all (k : Key) (n : Int) (h : 128 ≤ n) : kcut k n = k := key_ext fun i hi => by
  rw [kcut_msb]; have : (i : Int) < n := by omega
  simp [this]
theorem kcut_none (k : Key) (n : Int) (h : n < 1) : kcut k n = 0#128 := by unfold kcut; rw [if_pos h]
theorem kcut_cut (k : Key) (n m : Int) : kcut (kcut k n) m = kcut k (min n m) := key_ext fun i _ => by
  rw [kcut_msb, kcut_msb, kcut_msb, ← Bool.and_assoc]
  congr 1
  rw [← Bool.decide_and, decide_eq_decide]; omega
theorem kcut_eq_iff (k q : Key) (n : Int) : kcut k n = kcut q n ↔ ∀ i : Nat, i < 128 → (i : Int) < n → k.getMsbD i = q.getMsbD i := by
  constructor
  · intro h i _ hn
    have h1 := congrArg (·.getMsbD i) h
    simpa [kcut_msb, hn] using h1
  · intro h
    refine key_ext fun i hi => ?_
    rw [kcut_msb, kcut_msb]
    by_cases hn : (i : Int) < n
    · simp [hn, h i hi hn]
    · simp [hn]
theorem kcut_self_iff (k : Key) (n : Int) : kcut k n = k ↔ ∀ i : Nat, i < 128 → n ≤ (i : Int) → k.getMsbD i = false := by
  constructor
  · intro h i hi hn
    rw [← h, kcut_msb]; have : ¬ (i : Int) < n := by omega
    simp [this]
  · intro h
    refine key_ext fun i hi => ?_
    rw [kcut_msb]
    by_cases hn : (i : Int) < n
    · simp [hn]
    · rw [h i hi (by omega)]; simp

theorem kbyte_kcut (k : Key) (n : Nat) (i : Nat) (hi : i < 16) : kbyte (kcut k n) i = if 8 * i + 8 ≤ n then kbyte k i else if 8 * i ≤ n then kbyte k i / 2 ^ (8 - (n - 8 * i)) * 2 ^ (8 - (n - 8 * i)) else 0 := by
  have hb := kbyte_lt k i
  have hlt : (if 8 * i + 8 ≤ n then kbyte k i else if 8 * i ≤ n then kbyte k i / 2 ^ (8 - (n - 8 * i)) * 2 ^ (8 - (n - 8 * i)) else 0) < 256 := by
    split
    · exact hb
    · split
      · exact Nat.lt_of_le_of_lt (Nat.div_mul_le_self _ _) hb
      · omega
  refine kbyte_of_bits hi hlt fun m hm => ?_
  rw [kcut_msb, msb_kbyte k _ (by omega), show (8 * i + m) / 8 = i by omega, show 7 - (8 * i + m) % 8 = 7 - m by omega]
  split
  · have : ((8 * i + m : Nat) : Int) < (n : Int) := by omega
    simp only [this, decide_true, Bool.true_and]
  · split
    · generalize ht : 8 - (n - 8 * i) = t
      rw [Nat.testBit_mul_two_pow, Nat.testBit_div_two_pow]
      by_cases hlt : ((8 * i + m : Nat) : Int) < (n : Int)
      · have h1 : t ≤ 7 - m := by omega
        simp only [hlt, h1, decide_true, Bool.true_and]
        rw [show 7 - m - t + t = 7 - m by omega]
      · have h1 : ¬ t ≤ 7 - m := by omega
        simp only [hlt, h1, decide_false, Bool.false_and]
    · have : ¬ ((8 * i + m : Nat) : Int) < (n : Int) := by omega
      simp only [this, decide_false, Bool.false_and, Nat.zero_testBit]

/-! Bit. -/
def kbit (k : Key) (n : Int) : Int := if 0 ≤ n ∧ n < 128 then (if k.getMsbD n.toNat then 1 else 0) else 0
theorem testBit_int (x j : Nat) : ((x / 2 ^ j % 2 : Nat) : Int) = if x.testBit j then 1 else 0 := by
  rw [Nat.testBit_eq_decide_div_mod_eq]
  by_cases h : x / 2 ^ j % 2 = 1
  · simp [h]
  · have : x / 2 ^ j % 2 = 0 := by omega
    simp [this]
theorem kbit_eq (k : Key) (n : Int) (h0 : 0 ≤ n) (h1 : n < 128) : kbit k n = ((kbyte k (n / 8).toNat / 2 ^ (7 - n % 8).toNat % 2 : Nat) : Int) := by
  unfold kbit
  rw [if_pos ⟨h0, h1⟩, testBit_int, msb_kbyte k n.toNat (by omega)]
  rw [show (n / 8).toNat = n.toNat / 8 by omega, show (7 - n % 8).toNat = 7 - n.toNat % 8 by omega]
theorem kbit_out (k : Key) (n : Int) (h : n < 0 ∨ 128 ≤ n) : kbit k n = 0 := by unfold kbit; rw [if_neg (by omega)]
theorem kbit_01 (k : Key) (n : Int) : 0 ≤ kbit k n ∧ kbit k n ≤ 1 := by unfold kbit; split <;> (try split) <;> omega
theorem kbit_nat (k : Key) (n : Nat) : kbit k n = if k.getMsbD n then 1 else 0 := by
  unfold kbit
  rcases Nat.lt_or_ge n 128 with h | h
  · rw [if_pos (by omega)]; simp
  · rw [if_neg (by omega), msb_out k n h]; simp
theorem kbit_same {a b : Key} {n : Nat} : kbit a n = kbit b n ↔ a.getMsbD n = b.getMsbD n := by
  rw [kbit_nat, kbit_nat]
  cases a.getMsbD n <;> cases b.getMsbD n <;> simp

/-! Common. -/
def kcommon (a b : Key) : Int := (((List.range 128).find? fun n => a.getMsbD n != b.getMsbD n).getD 128 : Nat)
theorem kcommon_spec (a b : Key) : ∃ m : Nat, kcommon a b = m ∧ m ≤ 128 ∧ (∀ n, n < m → a.getMsbD n = b.getMsbD n) ∧ (m < 128 → a.getMsbD m ≠ b.getMsbD m) := by
  unfold kcommon
  cases h : (List.range 128).find? fun n => a.getMsbD n != b.getMsbD n with
  | none =>
    refine ⟨128, rfl, Nat.le_refl _, fun n hn => ?_, fun h => absurd h (by omega)⟩
    have := List.find?_eq_none.1 h n (List.mem_range.2 hn)
    simpa using this
  | some m =>
    obtain ⟨h1, as1, bs, h2, h3⟩ := List.find?_eq_some_iff_append.1 h
    have hm : as1.length = m := by
      have h4 := congrArg (·[as1.length]?) h2
      simp at h4
      have hl : as1.length < 128 := by
        have := congrArg List.length h2
        simp at this; omega
      rw [List.getElem?_range hl] at h4
      simpa using h4
    have hlt : m < 128 := by
      have := congrArg List.length h2
      simp at this; omega
    refine ⟨m, rfl, by omega, fun n hn => ?_, fun _ => by simpa using h1⟩
    have h4 : as1[n]? = some n := by
      have h5 := congrArg (·[n]?) h2
      simp only [List.getElem?_range (show n < 128 by omega)] at h5
      rw [List.getElem?_append_left (by omega)] at h5
      exact h5.symm
    have := h3 n (List.mem_of_getElem? h4)
    simpa using this
theorem kcommon_eq {a b : Key} {m : Nat} (h0 : m ≤ 128) (h1 : ∀ n, n < m → a.getMsbD n = b.getMsbD n) (h2 : m < 128 → a.getMsbD m ≠ b.getMsbD m) : kcommon a b = m := by
  obtain ⟨q, e, q0, q1, q2⟩ := kcommon_spec a b
  rw [e]
  rcases Nat.lt_trichotomy q m with h | h | h
  · exact absurd (h1 q h) (q2 (by omega))
  · omega
  · exact absurd (q1 m h) (h2 (by omega))
theorem kcommon_ge {a b : Key} {n : Int} (hn : n ≤ 128) : n ≤ kcommon a b ↔ kcut a n = kcut b n := by
  obtain ⟨q, e, q0, q1, q2⟩ := kcommon_spec a b
  rw [e, kcut_eq_iff]
  constructor
  · intro h i _ hin; exact q1 i (by omega)
  · intro h
    by_cases hq : n ≤ (q : Int)
    · exact hq
    · exact absurd (h q (by omega) (by omega)) (q2 (by omega))

def len8 (x : Nat) : Nat := if x = 0 then 0 else x.log2 + 1
theorem len8_le (x : Nat) (h : x < 256) : len8 x ≤ 8 := by
  unfold len8; split
  · omega
  · rename_i h0
    have := (Nat.log2_lt h0 (k := 8)).2 h
    omega
theorem len8_first (x : Nat) (h0 : x ≠ 0) (h : x < 256) : x.testBit (7 - (8 - len8 x)) = true ∧ ∀ m, m < 8 - len8 x → x.testBit (7 - m) = false := by
  have h8 : len8 x = x.log2 + 1 := by unfold len8; rw [if_neg h0]
  have hl : x.log2 < 8 := (Nat.log2_lt h0).2 h
  refine ⟨?_, fun m hm => ?_⟩
  · rw [h8, show 7 - (8 - (x.log2 + 1)) = x.log2 by omega]
    exact Nat.testBit_log2 h0
  · refine Nat.testBit_lt_two_pow ?_
    exact (Nat.log2_lt h0).1 (by omega)

theorem kcommon_byte {a b : Key} {i : Nat} (hi : i < 16) (hs : ∀ j, j < i → kbyte a j = kbyte b j) (hd : kbyte a i ≠ kbyte b i) : kcommon a b = 8 * i + (8 - len8 (kbyte a i ^^^ kbyte b i)) := by
  have ha := kbyte_lt a i
  have hb := kbyte_lt b i
  have hx : kbyte a i ^^^ kbyte b i < 256 := Nat.xor_lt_two_pow (n := 8) ha hb
  have h0 : kbyte a i ^^^ kbyte b i ≠ 0 := fun e => hd (Nat.eq_of_testBit_eq fun j => by
    have := congrArg (·.testBit j) e
    simp [Nat.testBit_xor] at this; exact this)
  obtain ⟨h1, h2⟩ := len8_first _ h0 hx
  have hl : len8 (kbyte a i ^^^ kbyte b i) ≤ 8 := len8_le _ hx
  have hl0 : 1 ≤ len8 (kbyte a i ^^^ kbyte b i) := by unfold len8; rw [if_neg h0]; omega
  generalize hL : len8 (kbyte a i ^^^ kbyte b i) = L at *
  have := kcommon_eq (a := a) (b := b) (m := 8 * i + (8 - L)) (by omega) (fun n hn => ?_) (fun _ => ?_)
  · rw [this]; omega
  · rw [msb_kbyte a n (by omega), msb_kbyte b n (by omega)]
    by_cases hni : n / 8 = i
    · have h3 := h2 (n % 8) (by omega)
      rw [Nat.testBit_xor] at h3
      rw [hni]; simpa using h3
    · rw [hs (n / 8) (by omega)]
  · rw [msb_kbyte a _ (by omega), msb_kbyte b _ (by omega), show (8 * i + (8 - L)) / 8 = i by omega, show (8 * i + (8 - L)) % 8 = 8 - L by omega]
    rw [Nat.testBit_xor] at h1
    simpa using h1
theorem kcommon_same {a b : Key} (hs : ∀ j, j < 16 → kbyte a j = kbyte b j) : kcommon a b = 128 := by
  rw [key_ext_byte hs]
  exact kcommon_eq (m := 128) (by omega) (fun _ _ => rfl) (fun h => absurd h (by omega))

/-! Step. -/
def kstep (k : Key) (n : Int) : Int := if 0 ≤ n ∧ n < 32 then 8 * kbit k (4 * n) + 4 * kbit k (4 * n + 1) + 2 * kbit k (4 * n + 2) + kbit k (4 * n + 3) else 0
theorem kstep_out (k : Key) (n : Int) (h : n < 0 ∨ 32 ≤ n) : kstep k n = 0 := by unfold kstep; rw [if_neg (by omega)]
theorem kbit_byte (k : Key) (i j : Nat) (hi : i < 16) (hj : j < 8) : kbit k ((8 * i + j : Nat) : Int) = ((kbyte k i / 2 ^ (7 - j) % 2 : Nat) : Int) := by
  rw [kbit_eq k _ (by omega) (by omega)]
  rw [show (((8 * i + j : Nat) : Int) / 8).toNat = i by omega, show (7 - ((8 * i + j : Nat) : Int) % 8).toNat = 7 - j by omega]
theorem nib_hi (b : Nat) (h : b < 256) : 8 * (b / 2 ^ 7 % 2) + 4 * (b / 2 ^ 6 % 2) + 2 * (b / 2 ^ 5 % 2) + b / 2 ^ 4 % 2 = b / 2 ^ 4 := by
  simp only [Nat.reducePow]; omega
theorem nib_lo (b : Nat) : 8 * (b / 2 ^ 3 % 2) + 4 * (b / 2 ^ 2 % 2) + 2 * (b / 2 ^ 1 % 2) + b / 2 ^ 0 % 2 = b % 16 := by
  simp only [Nat.reducePow]; omega
theorem kstep_even (k : Key) (n : Int) (h0 : 0 ≤ n) (h1 : n < 32) (he : n % 2 = 0) : kstep k n = ((kbyte k (n / 2).toNat / 2 ^ 4 : Nat) : Int) := by
  unfold kstep
  rw [if_pos ⟨h0, h1⟩]
  generalize hi : (n / 2).toNat = i
  have e0 : 4 * n = ((8 * i + 0 : Nat) : Int) := by omega
  have e1 : 4 * n + 1 = ((8 * i + 1 : Nat) : Int) := by omega
  have e2 : 4 * n + 2 = ((8 * i + 2 : Nat) : Int) := by omega
  have e3 : 4 * n + 3 = ((8 * i + 3 : Nat) : Int) := by omega
  rw [e1, e2, e3, e0, kbit_byte k i 0 (by omega) (by omega), kbit_byte k i 1 (by omega) (by omega), kbit_byte k i 2 (by omega) (by omega), kbit_byte k i 3 (by omega) (by omega)]
  have := nib_hi (kbyte k i) (kbyte_lt k i)
  simp only [Nat.reduceSub] at *
  omega
theorem kstep_odd (k : Key) (n : Int) (h0 : 0 ≤ n) (h1 : n < 32) (he : n % 2 = 1) : kstep k n = ((kbyte k (n / 2).toNat % 16 : Nat) : Int) := by
  unfold kstep
  rw [if_pos ⟨h0, h1⟩]
  generalize hi : (n / 2).toNat = i
  have e0 : 4 * n = ((8 * i + 4 : Nat) : Int) := by omega
  have e1 : 4 * n + 1 = ((8 * i + 5 : Nat) : Int) := by omega
  have e2 : 4 * n + 2 = ((8 * i + 6 : Nat) : Int) := by omega
  have e3 : 4 * n + 3 = ((8 * i + 7 : Nat) : Int) := by omega
  rw [e1, e2, e3, e0, kbit_byte k i 4 (by omega) (by omega), kbit_byte k i 5 (by omega) (by omega), kbit_byte k i 6 (by omega) (by omega), kbit_byte k i 7 (by omega) (by omega)]
  have := nib_lo (kbyte k i)
  simp only [Nat.reduceSub] at *
  omega

/-! Prefixes. -/
structure Pfx where
  bits : Int
  len : Int
  key : Key
  deriving DecidableEq

def pmay (p : Pfx) : Bool := decide (p.bits = 32 ∨ p.bits = 128) && decide (0 ≤ p.len) && decide (p.len ≤ p.bits) && decide (kcut p.key p.len = p.key)
theorem pmay_iff (p : Pfx) : pmay p = true ↔ (p.bits = 32 ∨ p.bits = 128) ∧ 0 ≤ p.len ∧ p.len ≤ p.bits ∧ kcut p.key p.len = p.key := by
  unfold pmay; simp [and_assoc]
def pfits (p : Pfx) (k : Key) : Bool := pmay p && decide (kcut k p.bits = k) && decide (kcut k p.len = p.key)
def pcovers (p q : Pfx) : Bool := pmay p && pmay q && decide (p.bits = q.bits) && decide (p.len ≤ q.len) && decide (kcut q.key p.len = p.key)
def pless (p q : Pfx) : Bool := pmay p && pmay q && (if p.bits ≠ q.bits then decide (p.bits = 32) else if p.key ≠ q.key then decide (p.key.toNat < q.key.toNat) else decide (p.len < q.len))

def pcells (p : Pfx) : Array Value := #[.int .i64 p.bits, .int .i64 p.len] ++ kcells p.key
theorem pcells_size (p : Pfx) : (pcells p).size = 18 := by unfold pcells; rw [Array.size_append, kcells_size]; rfl
theorem pcells_0 (p : Pfx) : (pcells p)[0]? = some (.int .i64 p.bits) := by unfold pcells; rw [Array.getElem?_append]; rfl
theorem pcells_1 (p : Pfx) : (pcells p)[1]? = some (.int .i64 p.len) := by unfold pcells; rw [Array.getElem?_append]; rfl
theorem pcells_k (p : Pfx) (j : Nat) : (pcells p)[2 + j]? = (kcells p.key)[j]? := by
  unfold pcells; rw [Array.getElem?_append, if_neg (by simp)]; congr 1; simp
theorem pcells_set (p : Pfx) (i x : Nat) (hi : i < 16) (hx : x < 256) : (pcells p).setIfInBounds (2 + i) (.int .u8 x) = pcells ⟨p.bits, p.len, kset p.key i x⟩ := by
  apply Array.ext_getElem?
  intro j
  rw [Array.getElem?_setIfInBounds]
  match j with
  | 0 => rw [if_neg (by omega), pcells_0, pcells_0]
  | 1 => rw [if_neg (by omega), pcells_1, pcells_1]
  | j + 2 =>
    rw [Nat.add_comm j 2, pcells_k, pcells_k]
    show _ = (kcells (kset p.key i x))[j]?
    rw [← kcells_set p.key i x hi hx, Array.getElem?_setIfInBounds, pcells_size, kcells_size]
    by_cases h : i = j
    · subst h; simp [hi]; omega
    · rw [if_neg (by omega), if_neg h]
theorem pcells_kb (p : Pfx) (i : Nat) (hi : i < 16) : (pcells p)[2 + i * 1]? = some (.int .u8 (kbyte p.key i)) := by rw [Nat.mul_one, pcells_k, kcells_get _ i hi]
theorem pcells_setb (p : Pfx) (i x : Nat) (hi : i < 16) (hx : x < 256) : (pcells p).setIfInBounds (2 + i * 1) (.int .u8 x) = pcells ⟨p.bits, p.len, kset p.key i x⟩ := by rw [Nat.mul_one, pcells_set p i x hi hx]
theorem pcells_inj {a b : Pfx} (h : pcells a = pcells b) : a = b := by
  have h0 := pcells_0 a; rw [h, pcells_0] at h0
  have h1 := pcells_1 a; rw [h, pcells_1] at h1
  have h2 : a.key = b.key := kcells_inj (Array.ext_getElem? fun i => by rw [← pcells_k, ← pcells_k, h])
  cases a; cases b
  simp at h0 h1 h2 ⊢
  exact ⟨h0.symm, h1.symm, h2⟩

/-! The order of keys is that of their bytes. -/
theorem kof_kbyte (k : Key) : kof (kbyte k) = k := key_ext_byte fun i hi => by
  rw [kbyte_kof _ i hi]; have := kbyte_lt k i; omega
theorem key_lt_of_byte {a b : Key} {i : Nat} (hi : i < 16) (hs : ∀ j, j < i → kbyte a j = kbyte b j) (hd : kbyte a i < kbyte b i) : a.toNat < b.toNat := by
  have key : ∀ n, n ≤ 16 → i < n → (List.range n).foldl (fun x j => x * 2 ^ 8 + kbyte a j % 2 ^ 8) 0 < (List.range n).foldl (fun x j => x * 2 ^ 8 + kbyte b j % 2 ^ 8) 0 := by
    intro n
    induction n with
    | zero => intro _ h; omega
    | succ n ih =>
      intro hn hin
      rw [List.range_succ, List.foldl_append, List.foldl_append]
      simp only [List.foldl_cons, List.foldl_nil]
      have ha := kbyte_lt a n
      have hb := kbyte_lt b n
      by_cases h : i = n
      · subst h
        have e : (List.range i).foldl (fun x j => x * 2 ^ 8 + kbyte a j % 2 ^ 8) 0 = (List.range i).foldl (fun x j => x * 2 ^ 8 + kbyte b j % 2 ^ 8) 0 := by
          have aux : ∀ (l : List Nat) (z : Nat), (∀ j ∈ l, kbyte a j = kbyte b j) → l.foldl (fun x j => x * 2 ^ 8 + kbyte a j % 2 ^ 8) z = l.foldl (fun x j => x * 2 ^ 8 + kbyte b j % 2 ^ 8) z := by
            intro l
            induction l with
            | nil => intro z _; rfl
            | cons x l ih => intro z hl; simp only [List.foldl_cons]; rw [hl x (by simp)]; exact ih _ fun j hj => hl j (by simp [hj])
          exact aux _ _ fun j hj => hs j (List.mem_range.1 hj)
        rw [e]; omega
      · have := ih (by omega) (by omega); omega
  have h16 := key 16 (Nat.le_refl _) hi
  have ea : a.toNat = (List.range 16).foldl (fun x j => x * 2 ^ 8 + kbyte a j % 2 ^ 8) 0 := by
    conv => lhs; rw [← kof_kbyte a]
    unfold kof; rw [BitVec.toNat_ofNat]; exact Nat.mod_eq_of_lt (fold_lt (kbyte a) 16)
  have eb : b.toNat = (List.range 16).foldl (fun x j => x * 2 ^ 8 + kbyte b j % 2 ^ 8) 0 := by
    conv => lhs; rw [← kof_kbyte b]
    unfold kof; rw [BitVec.toNat_ofNat]; exact Nat.mod_eq_of_lt (fold_lt (kbyte b) 16)
  rw [ea, eb]; exact h16
theorem lt_of_bits {x y : Nat} (i : Nat) (hx : x.testBit i = false) (hy : y.testBit i = true) (h : ∀ j, i < j → x.testBit j = y.testBit j) : x < y := by
  have e : x / 2 ^ (i + 1) = y / 2 ^ (i + 1) := Nat.eq_of_testBit_eq fun j => by
    rw [Nat.testBit_div_two_pow, Nat.testBit_div_two_pow]; exact h _ (by omega)
  rw [Nat.pow_succ, ← Nat.div_div_eq_div_mul, ← Nat.div_div_eq_div_mul] at e
  rw [Nat.testBit_eq_decide_div_mod_eq] at hx hy
  simp at hx hy
  rcases Nat.lt_or_ge x y with h1 | h1
  · exact h1
  · have := Nat.div_le_div_right (c := 2 ^ i) h1
    omega
theorem key_lt_of_bit {a b : Key} {n : Nat} (hn : n < 128) (hs : ∀ j, j < n → a.getMsbD j = b.getMsbD j) (ha : a.getMsbD n = false) (hb : b.getMsbD n = true) : a.toNat < b.toNat := by
  refine key_lt_of_byte (i := n / 8) (by omega) (fun j hj => ?_) ?_
  · exact kbyte_of_bits (by omega) (kbyte_lt b j) fun m hm => by
      rw [hs _ (by omega), msb_kbyte b _ (by omega)]
      congr 2 <;> omega
  · have h8 : ∀ m, m < n % 8 → (kbyte a (n / 8)).testBit (7 - m) = (kbyte b (n / 8)).testBit (7 - m) := fun m hm => by
      have h1 := hs (8 * (n / 8) + m) (by omega)
      rw [msb_kbyte a _ (by omega), msb_kbyte b _ (by omega)] at h1
      rw [show (8 * (n / 8) + m) / 8 = n / 8 by omega, show (8 * (n / 8) + m) % 8 = m by omega] at h1
      exact h1
    rw [msb_kbyte a n hn] at ha
    rw [msb_kbyte b n hn] at hb
    refine lt_of_bits (7 - n % 8) ha hb fun j hj => ?_
    rcases Nat.lt_or_ge j 8 with h | h
    · have := h8 (7 - j) (by omega)
      rw [show 7 - (7 - j) = j by omega] at this
      exact this
    · have hp : 2 ^ 8 ≤ 2 ^ j := Nat.pow_le_pow_right (by decide) h
      rw [Nat.testBit_lt_two_pow (Nat.lt_of_lt_of_le (kbyte_lt a _) hp), Nat.testBit_lt_two_pow (Nat.lt_of_lt_of_le (kbyte_lt b _) hp)]

def kcmp (a b : Key) : Int := if a.toNat < b.toNat then -1 else if b.toNat < a.toNat then 1 else 0
theorem kcmp_eq (a b : Key) : kcmp a b = 0 ↔ a = b := by
  unfold kcmp
  constructor
  · intro h
    split at h
    · omega
    · split at h
      · omega
      · exact BitVec.eq_of_toNat_eq (by omega)
  · rintro rfl; simp
theorem kcmp_lt (a b : Key) : kcmp a b < 0 ↔ a.toNat < b.toNat := by
  unfold kcmp; split
  · simp [*]
  · split <;> simp [*]

/-! Prefixes: what fits, bit by bit. -/
theorem pfits_iff (p : Pfx) (k : Key) : pfits p k = true ↔ pmay p = true ∧ kcut k p.bits = k ∧ kcut k p.len = p.key := by
  unfold pfits; simp [and_assoc]
theorem pcovers_iff (p q : Pfx) : pcovers p q = true ↔ pmay p = true ∧ pmay q = true ∧ p.bits = q.bits ∧ p.len ≤ q.len ∧ kcut q.key p.len = p.key := by
  unfold pcovers; simp [and_assoc]
theorem pfits_bits (p : Pfx) (k : Key) (h : pmay p = true) : pfits p k = true ↔ ∀ i : Nat, i < 128 → ((i : Int) < p.len → p.key.getMsbD i = k.getMsbD i) ∧ (p.bits ≤ (i : Int) → k.getMsbD i = false) := by
  rw [pfits_iff]
  obtain ⟨_, h2, h3, h4⟩ := (pmay_iff p).1 h
  constructor
  · rintro ⟨_, h5, h6⟩ i hi
    refine ⟨fun hl => ?_, fun hb => (kcut_self_iff k p.bits).1 h5 i hi hb⟩
    have := congrArg (·.getMsbD i) h6
    simp only [kcut_msb, hl, decide_true, Bool.true_and] at this
    exact this.symm
  · intro hh
    refine ⟨h, (kcut_self_iff k p.bits).2 fun i hi hb => (hh i hi).2 hb, ?_⟩
    rw [← h4]
    exact (kcut_eq_iff k p.key p.len).2 fun i hi hl => ((hh i hi).1 hl).symm
theorem pmay_bits (p : Pfx) : pmay p = true ↔ (p.bits = 32 ∨ p.bits = 128) ∧ 0 ≤ p.len ∧ p.len ≤ p.bits ∧ ∀ i : Nat, i < 128 → p.len ≤ (i : Int) → p.key.getMsbD i = false := by
  rw [pmay_iff, kcut_self_iff]

/-! The laws of layer 1, of these alone. -/
theorem kcut_le (k : Key) (n : Int) : (kcut k n).toNat ≤ k.toNat := by
  rcases Nat.lt_or_ge k.toNat (kcut k n).toNat with h | h
  · exfalso
    by_cases e : kcut k n = k
    · rw [e] at h; omega
    · obtain ⟨m, e1, m0, m1, m2⟩ := kcommon_spec (kcut k n) k
      have hm : m < 128 := by
        rcases Nat.lt_or_ge m 128 with hm | hm
        · exact hm
        · exact absurd (key_ext fun i hi => m1 i (by omega)) e
      have hd := m2 hm
      rw [kcut_msb] at hd
      have hb : k.getMsbD m = true := by
        cases hb : k.getMsbD m with
        | true => rfl
        | false => rw [hb] at hd; simp at hd
      have := key_lt_of_bit hm m1 (by rw [kcut_msb]; rw [hb] at hd ⊢; simpa using hd) hb
      omega
  · exact h
theorem covers_of_fits {p q : Pfx} {k : Key} (hp : pfits p k = true) (hq : pfits q k = true) (hb : p.bits = q.bits) (hl : p.len ≤ q.len) : pcovers p q = true := by
  rw [pfits_iff] at hp hq
  refine (pcovers_iff p q).2 ⟨hp.1, hq.1, hb, hl, ?_⟩
  rw [← hq.2.2, kcut_cut, ← hp.2.2]; congr 1; omega
theorem law_covers2 {p q : Pfx} {k : Key} : (pfits p k && pfits q k && decide (p.bits = q.bits) && !pcovers p q && !pcovers q p) = false := by
  rw [← Bool.not_eq_true]
  simp only [Bool.and_eq_true, Bool.not_eq_true', decide_eq_true_eq]
  rintro ⟨⟨⟨⟨h1, h2⟩, h3⟩, h4⟩, h5⟩
  rcases Int.le_total p.len q.len with h | h
  · rw [covers_of_fits h1 h2 h3 h] at h4; cases h4
  · rw [covers_of_fits h2 h1 h3.symm h] at h5; cases h5
theorem law_covers1 {p q : Pfx} {k : Key} (h : (!pmay p || !pmay q) = true) : (!pcovers p q && !pless p q && !(pfits p k && !pmay p)) = true := by
  simp only [Bool.or_eq_true, Bool.not_eq_true'] at h
  have h1 : pcovers p q = false := by unfold pcovers; rcases h with h | h <;> simp [h]
  have h2 : pless p q = false := by unfold pless; rcases h with h | h <;> simp [h]
  have h3 : (pfits p k && !pmay p) = false := by unfold pfits; cases pmay p <;> simp
  rw [h1, h2, h3]; rfl
theorem covers_less {p q : Pfx} (h : pcovers p q = true) : pless q p = false := by
  obtain ⟨h1, h2, h3, h4, h5⟩ := (pcovers_iff p q).1 h
  have hle := kcut_le q.key p.len
  rw [h5] at hle
  unfold pless
  rw [h1, h2, if_neg (by simp [h3])]
  by_cases e : q.key = p.key
  · rw [if_neg (by simp [e])]; simp; omega
  · rw [if_pos e]; simp; omega
theorem covers_fits {p q : Pfx} {k : Key} (h : pcovers p q = true) (hq : pfits q k = true) : pfits p k = true := by
  obtain ⟨h1, h2, h3, h4, h5⟩ := (pcovers_iff p q).1 h
  obtain ⟨_, q2, q3⟩ := (pfits_iff q k).1 hq
  refine (pfits_iff p k).2 ⟨h1, by rw [h3]; exact q2, ?_⟩
  rw [← h5, ← q3, kcut_cut]; congr 1; omega
theorem covers_anti {p q : Pfx} (h : pcovers p q = true) (h' : pcovers q p = true) : p = q := by
  obtain ⟨h1, h2, h3, h4, h5⟩ := (pcovers_iff p q).1 h
  obtain ⟨_, _, _, g4, _⟩ := (pcovers_iff q p).1 h'
  obtain ⟨_, _, _, q4⟩ := (pmay_iff q).1 h2
  have hl : p.len = q.len := by omega
  have hk : p.key = q.key := by rw [← h5, hl, q4]
  cases p; cases q; simp_all
theorem law_covers4 {p q : Pfx} {k : Key} (h : (!pcovers p q) = false) : (!pless q p && (!pfits q k || pfits p k) && (decide (p = q) || !pcovers q p)) = true := by
  have h : pcovers p q = true := by simpa using h
  rw [covers_less h]
  have h2 : (!pfits q k || pfits p k) = true := by
    cases hq : pfits q k with
    | false => rfl
    | true => rw [covers_fits h hq]; rfl
  have h3 : (decide (p = q) || !pcovers q p) = true := by
    cases hq : pcovers q p with
    | false => simp
    | true => simp [covers_anti h hq]
  rw [h2, h3]; rfl
theorem pless_iff {p q : Pfx} (hp : pmay p = true) (hq : pmay q = true) : pless p q = true ↔ p.bits < q.bits ∨ (p.bits = q.bits ∧ (p.key.toNat < q.key.toNat ∨ (p.key.toNat = q.key.toNat ∧ p.len < q.len))) := by
  obtain ⟨p1, _⟩ := (pmay_iff p).1 hp
  obtain ⟨q1, _⟩ := (pmay_iff q).1 hq
  have ek : p.key = q.key ↔ p.key.toNat = q.key.toNat := ⟨fun h => by rw [h], BitVec.eq_of_toNat_eq⟩
  unfold pless
  rw [hp, hq, Bool.true_and, Bool.true_and]
  by_cases hb : p.bits = q.bits
  · rw [if_neg (by simpa using hb)]
    by_cases hk : p.key = q.key
    · rw [if_neg (by simpa using hk)]; rw [ek] at hk; simp; omega
    · rw [if_pos hk]; rw [ek] at hk; simp; omega
  · rw [if_pos hb]; simp; omega
theorem pfx_eq {p q : Pfx} : p = q ↔ p.bits = q.bits ∧ p.key.toNat = q.key.toNat ∧ p.len = q.len := by
  constructor
  · rintro rfl; exact ⟨rfl, rfl, rfl⟩
  · rintro ⟨h1, h2, h3⟩
    have := BitVec.eq_of_toNat_eq h2
    cases p; cases q; simp_all
theorem law_order {p q r : Pfx} (h : ((!pmay p || !pmay q) || !pmay r) = false) :
    ((decide (p = q) == (!pless p q && !pless q p)) && !(pless p q && pless q p) && ((!pless p q || !pless q r) || pless p r)) = true := by
  simp only [Bool.or_eq_false_iff, Bool.not_eq_false'] at h
  obtain ⟨⟨hp, hq⟩, hr⟩ := h
  have a1 := pless_iff hp hq
  have a2 := pless_iff hq hp
  have a3 := pless_iff hq hr
  have a4 := pless_iff hp hr
  have e := pfx_eq (p := p) (q := q)
  have h1 : decide (p = q) = (!pless p q && !pless q p) := by
    rw [Bool.eq_iff_iff, decide_eq_true_eq, Bool.and_eq_true, Bool.not_eq_true', Bool.not_eq_true', ← Bool.not_eq_true, ← Bool.not_eq_true, a1, a2, e]; omega
  have h2 : (pless p q && pless q p) = false := by
    rw [← Bool.not_eq_true, Bool.and_eq_true, a1, a2]; omega
  have h3 : ((!pless p q || !pless q r) || pless p r) = true := by
    rw [Bool.or_eq_true, Bool.or_eq_true, Bool.not_eq_true', Bool.not_eq_true', ← Bool.not_eq_true, ← Bool.not_eq_true, a1, a3, a4]; omega
  rw [h2, h3, h1]; simp
theorem flip_byte (k : Key) (n : Nat) (i : Nat) (hi : i < 128) :
    (kset k (n / 8) (kbyte k (n / 8) ^^^ 128 / 2 ^ (n % 8))).getMsbD i = (k.getMsbD i ^^ decide (i = n)) := by
  have h128 : 128 / 2 ^ (n % 8) = 2 ^ (7 - n % 8) := by
    have : n % 8 < 8 := Nat.mod_lt _ (by decide)
    match n % 8, this with
    | 0, _ | 1, _ | 2, _ | 3, _ | 4, _ | 5, _ | 6, _ | 7, _ => rfl
  have hlt : kbyte k (n / 8) ^^^ 128 / 2 ^ (n % 8) < 256 := Nat.xor_lt_two_pow (n := 8) (kbyte_lt _ _) (by rw [h128]; exact Nat.pow_lt_pow_right (by decide) (by omega))
  rw [msb_kbyte _ i hi, msb_kbyte k i hi, kbyte_kset k _ _ _ (by omega) hlt]
  by_cases e : i / 8 = n / 8
  · rw [if_pos e, e, Nat.testBit_xor, h128, Nat.testBit_two_pow]
    congr 1
    rw [decide_eq_decide]; omega
  · rw [if_neg e]
    have : ¬ i = n := fun h => e (by rw [h])
    simp [this]
theorem own_fits {p : Pfx} {k : Key} (hp : pmay p = true) (hk : kcut k p.bits = k) (hl : p.len ≠ p.bits) : pfits ⟨p.bits, p.len + 1, kcut k (p.len + 1)⟩ k = true := by
  obtain ⟨h1, h2, h3, h4⟩ := (pmay_iff p).1 hp
  refine (pfits_iff _ _).2 ⟨(pmay_iff _).2 ⟨h1, by show (0 : Int) ≤ p.len + 1; omega, by show p.len + 1 ≤ p.bits; omega, ?_⟩, hk, rfl⟩
  show kcut (kcut k (p.len + 1)) (p.len + 1) = _
  rw [kcut_cut]; congr 1; omega
theorem other_may {p : Pfx} {k o : Key} (hp : pmay p = true) (hl : p.len ≠ p.bits) (ho : ∀ i, i < 128 → o.getMsbD i = ((kcut k (p.len + 1)).getMsbD i ^^ decide (i = p.len.toNat))) : pmay ⟨p.bits, p.len + 1, o⟩ = true := by
  obtain ⟨h1, h2, h3, h4⟩ := (pmay_iff p).1 hp
  refine (pmay_bits _).2 ⟨h1, by show (0 : Int) ≤ p.len + 1; omega, by show p.len + 1 ≤ p.bits; omega, fun i hi hb => ?_⟩
  have hb' : p.len + 1 ≤ (i : Int) := hb
  show o.getMsbD i = false
  rw [ho i hi, kcut_msb, decide_eq_false (show ¬ (i : Int) < p.len + 1 by omega), decide_eq_false (show ¬ i = p.len.toNat by omega)]; rfl
theorem law_steps {p : Pfx} {k o : Key} (hp : pmay p = true) (hk : kcut k p.bits = k) (hf : pfits p k = true) (hl : p.len ≠ p.bits) (ho : ∀ i, i < 128 → o.getMsbD i = ((kcut k (p.len + 1)).getMsbD i ^^ decide (i = p.len.toNat))) :
    (pfits ⟨p.bits, p.len + 1, kcut k (p.len + 1)⟩ k && !pfits ⟨p.bits, p.len + 1, o⟩ k && pcovers p ⟨p.bits, p.len + 1, kcut k (p.len + 1)⟩ && pcovers p ⟨p.bits, p.len + 1, o⟩ && !pcovers ⟨p.bits, p.len + 1, kcut k (p.len + 1)⟩ ⟨p.bits, p.len + 1, o⟩) = true := by
  obtain ⟨h1, h2, h3, h4⟩ := (pmay_iff p).1 hp
  have hfit := own_fits hp hk hl
  have hown := ((pfits_iff _ _).1 hfit).1
  have hom := other_may hp hl ho
  have hpk := ((pfits_iff p k).1 hf).2.2
  obtain ⟨m, hm⟩ := Int.eq_ofNat_of_zero_le h2
  have hm128 : m < 128 := by omega
  have hbit : o.getMsbD m ≠ k.getMsbD m := by
    rw [ho m hm128, kcut_msb, decide_eq_true (show (m : Int) < p.len + 1 by omega), decide_eq_true (show m = p.len.toNat by omega)]
    cases k.getMsbD m <;> simp
  have hrest : ∀ i : Nat, i < 128 → (i : Int) < p.len → o.getMsbD i = k.getMsbD i := fun i hi hlt => by
    rw [ho i hi, kcut_msb, decide_eq_true (show (i : Int) < p.len + 1 by omega), decide_eq_false (show ¬ i = p.len.toNat by omega)]; simp
  have b2 : pfits ⟨p.bits, p.len + 1, o⟩ k = false := by
    rw [← Bool.not_eq_true, pfits_bits _ _ hom]
    intro h
    exact hbit ((h m hm128).1 (show (m : Int) < p.len + 1 by omega))
  have b3 : pcovers p ⟨p.bits, p.len + 1, kcut k (p.len + 1)⟩ = true := by
    refine (pcovers_iff _ _).2 ⟨hp, hown, rfl, by show p.len ≤ p.len + 1; omega, ?_⟩
    show kcut (kcut k (p.len + 1)) p.len = p.key
    rw [kcut_cut, ← hpk]; congr 1; omega
  have b4 : pcovers p ⟨p.bits, p.len + 1, o⟩ = true := by
    refine (pcovers_iff _ _).2 ⟨hp, hom, rfl, by show p.len ≤ p.len + 1; omega, ?_⟩
    show kcut o p.len = p.key
    rw [← hpk, kcut_eq_iff]
    exact fun i hi hlt => hrest i hi hlt
  have b5 : pcovers ⟨p.bits, p.len + 1, kcut k (p.len + 1)⟩ ⟨p.bits, p.len + 1, o⟩ = false := by
    rw [← Bool.not_eq_true, pcovers_iff]
    rintro ⟨_, _, _, _, h⟩
    have h : kcut o (p.len + 1) = kcut k (p.len + 1) := h
    exact hbit ((kcut_eq_iff _ _ _).1 h m hm128 (by omega))
  rw [hfit, b2, b3, b4, b5]; rfl
def stepsFit (p : Pfx) (k : Key) (n : Nat) : Bool := (List.range n).all fun i => decide (kstep p.key i = kstep k i)
def bitsFit (p : Pfx) (k : Key) (m n : Nat) : Bool := (List.range' m (n - m)).all fun i => decide (kbit p.key i = kbit k i)
theorem stepsFit_succ (p : Pfx) (k : Key) (n : Nat) : stepsFit p k (n + 1) = (stepsFit p k n && decide (kstep p.key n = kstep k n)) := by
  unfold stepsFit; rw [List.range_succ, List.all_append]; simp
theorem bitsFit_succ (p : Pfx) (k : Key) (m n : Nat) (h : m ≤ n) : bitsFit p k m (n + 1) = (bitsFit p k m n && decide (kbit p.key n = kbit k n)) := by
  unfold bitsFit
  rw [show n + 1 - m = (n - m) + 1 by omega, List.range'_concat, List.all_append]
  simp [show m + (n - m) = n by omega]
theorem kstep_bits {a b : Key} {n : Nat} (hn : n < 32) : kstep a n = kstep b n ↔ ∀ j, j < 4 → a.getMsbD (4 * n + j) = b.getMsbD (4 * n + j) := by
  have e : ∀ k : Key, kstep k n = 8 * kbit k ((4 * n + 0 : Nat) : Int) + 4 * kbit k ((4 * n + 1 : Nat) : Int) + 2 * kbit k ((4 * n + 2 : Nat) : Int) + kbit k ((4 * n + 3 : Nat) : Int) := fun k => by
    unfold kstep; rw [if_pos (by omega)]
    simp only [Nat.add_zero, Int.natCast_add, Int.natCast_mul]
    rfl
  rw [e a, e b]
  constructor
  · intro h
    have f : ∀ (k : Key) (j : Nat), 0 ≤ kbit k j ∧ kbit k j ≤ 1 := fun k j => kbit_01 k j
    have a0 := f a (4 * n + 0); have a1 := f a (4 * n + 1); have a2 := f a (4 * n + 2); have a3 := f a (4 * n + 3)
    have b0 := f b (4 * n + 0); have b1 := f b (4 * n + 1); have b2 := f b (4 * n + 2); have b3 := f b (4 * n + 3)
    intro j hj
    rw [← kbit_same]
    match j, hj with
    | 0, _ | 1, _ | 2, _ | 3, _ => omega
  · intro h
    rw [kbit_same.2 (h 0 (by omega)), kbit_same.2 (h 1 (by omega)), kbit_same.2 (h 2 (by omega)), kbit_same.2 (h 3 (by omega))]
theorem fits_steps {p : Pfx} {k : Key} (hp : pmay p = true) (hk : kcut k p.bits = k) : pfits p k = (stepsFit p k (p.len / 4).toNat && bitsFit p k (p.len / 4 * 4).toNat p.len.toNat) := by
  obtain ⟨h1, h2, h3, h4⟩ := (pmay_iff p).1 hp
  obtain ⟨m, hm⟩ := Int.eq_ofNat_of_zero_le h2
  rw [Bool.eq_iff_iff, pfits_iff, Bool.and_eq_true]
  unfold stepsFit bitsFit
  simp only [List.all_eq_true, List.mem_range, List.mem_range'_1, decide_eq_true_eq]
  constructor
  · rintro ⟨_, _, h⟩
    rw [← h4, kcut_eq_iff] at h
    refine ⟨fun i hi => (kstep_bits (by omega)).2 fun j hj => (h _ (by omega) (by omega)).symm, fun i hi => kbit_same.2 (h i (by omega) (by omega)).symm⟩
  · rintro ⟨hs, hb⟩
    refine ⟨hp, hk, ?_⟩
    rw [← h4, kcut_eq_iff]
    intro i hi hlt
    by_cases hc : i / 4 < (p.len / 4).toNat
    · have := (kstep_bits (by omega)).1 (hs (i / 4) hc) (i % 4) (by omega)
      rw [show 4 * (i / 4) + i % 4 = i by omega] at this
      exact this.symm
    · exact (kbit_same.1 (hb i (by omega))).symm
theorem law_cuts1 (k : Key) (n m : Int) : (!decide (kcut (kcut k n) m = kcut k (min n m)) || decide (kcommon (kcut k n) k < min n 128)) = false := by
  have h1 : kcut (kcut k n) m = kcut k (min n m) := kcut_cut k n m
  have h2 : min n 128 ≤ kcommon (kcut k n) k := (kcommon_ge (by omega)).2 (by rw [kcut_cut]; congr 1; omega)
  simp [h1]; omega
theorem law_cuts2 (k : Key) (n i : Int) : (decide (i < n) && !decide (kbit (kcut k n) i = kbit k i) || decide (n ≤ i) && !decide (kbit (kcut k n) i = 0)) = false := by
  have hb : kbit (kcut k n) i = if i < n then kbit k i else 0 := by
    unfold kbit
    by_cases h : 0 ≤ i ∧ i < 128
    · rw [if_pos h, if_pos h, kcut_msb, show ((i.toNat : Nat) : Int) = i by omega]
      by_cases hn : i < n <;> simp [hn]
    · rw [if_neg h, if_neg h]; simp
  by_cases h : i < n
  · rw [hb, if_pos h]; simp; intro h2; omega
  · rw [hb, if_neg h]; simp [h]
theorem law_cuts3 (k : Key) (i : Int) (h0 : 0 ≤ i) (h1 : i < 32) : kstep k i = 8 * kbit k (4 * i) + 4 * kbit k (4 * i + 1) + 2 * kbit k (4 * i + 2) + kbit k (4 * i + 3) := by
  unfold kstep; rw [if_pos ⟨h0, h1⟩]

end Go.Kb

/- Routes, and tables of them: what is right of a table. No program in sight. -/
namespace Go.Kb

structure Rt where
  p : Pfx
  hop : UInt16
  deriving DecidableEq

def zroute : Rt := ⟨⟨0, 0, 0#128⟩, 0⟩
def rcells (r : Rt) : Array Value := pcells r.p ++ #[.int .u16 r.hop.toNat]
theorem rcells_size (r : Rt) : (rcells r).size = 19 := by unfold rcells; rw [Array.size_append, pcells_size]; rfl
theorem rcells_p (r : Rt) (j : Nat) (h : j < 18) : (rcells r)[j]? = (pcells r.p)[j]? := by
  unfold rcells; rw [Array.getElem?_append_left (by rw [pcells_size]; exact h)]
theorem rcells_hop (r : Rt) : (rcells r)[18]? = some (.int .u16 r.hop.toNat) := by
  unfold rcells; rw [Array.getElem?_append_right (by rw [pcells_size]; omega), pcells_size]; rfl

def okAt (xs : List Rt) (i : Nat) : Bool := match xs[i]? with
  | none => true
  | some r => pmay r.p && match i with
    | 0 => true
    | j + 1 => match xs[j]? with
      | none => true
      | some q => pless q.p r.p
def okTo (xs : List Rt) (n : Nat) : Bool := (List.range n).all (okAt xs)
def tright (xs : List Rt) : Bool := decide (xs.length ≤ 256) && okTo xs xs.length
theorem okTo_zero (xs : List Rt) : okTo xs 0 = true := rfl
theorem okTo_succ (xs : List Rt) (n : Nat) : okTo xs (n + 1) = (okTo xs n && okAt xs n) := by
  simp [okTo, List.range_succ]
theorem tright_long {xs : List Rt} (h : 256 < xs.length) : tright xs = false := by
  simp [tright]; omega
theorem tright_no {xs : List Rt} {i : Nat} (hi : i < xs.length) (h : okAt xs i = false) : tright xs = false := by
  have : okTo xs xs.length = false := by
    rw [okTo, List.all_eq_false]
    exact ⟨i, List.mem_range.2 hi, by simp [h]⟩
  simp [tright, this]
theorem tright_all {xs : List Rt} (h : xs.length ≤ 256) (ho : okTo xs xs.length = true) : tright xs = true := by simp [tright, h, ho]
theorem okAt_may {xs : List Rt} {i : Nat} {r : Rt} (hi : xs[i]? = some r) (h : pmay r.p = false) : okAt xs i = false := by simp [okAt, hi, h]
theorem okAt_zero {xs : List Rt} {r : Rt} (hi : xs[0]? = some r) : okAt xs 0 = pmay r.p := by simp [okAt, hi]
theorem okAt_succ {xs : List Rt} {i : Nat} {q r : Rt} (hi : xs[i + 1]? = some r) (hq : xs[i]? = some q) : okAt xs (i + 1) = (pmay r.p && pless q.p r.p) := by simp [okAt, hi, hq]
theorem okAt_pos {xs : List Rt} {i : Nat} {q r : Rt} (h0 : 0 < i) (hi : xs[i]? = some r) (hq : xs[i - 1]? = some q) : okAt xs i = (pmay r.p && pless q.p r.p) := by
  obtain ⟨j, rfl⟩ : ∃ j, i = j + 1 := ⟨i - 1, by omega⟩
  exact okAt_succ hi (by simpa using hq)
theorem okAt_eq {xs : List Rt} {i : Nat} {q r : Rt} (hi : xs[i]? = some r) (hq : xs[i - 1]? = some q) : okAt xs i = (pmay r.p && !(decide (0 < (i : Int)) && !pless q.p r.p)) := by
  rcases Nat.eq_zero_or_pos i with h | h
  · subst h; rw [okAt_zero hi]; simp
  · rw [okAt_pos h hi hq]; simp [h]
theorem okAt_eq' {xs : List Rt} {i : Nat} {q r : Rt} (hi : xs[i]? = some r) (hq : xs[i - 1]? = some q) : okAt xs i = !(!pmay r.p || (decide (0 < (i : Int)) && !pless q.p r.p)) := by
  rw [okAt_eq hi hq]; cases pmay r.p <;> simp
theorem and_r {c g : Bool} (h : (c && g) = true) : g = true := by cases c <;> simp_all
theorem get_some {α : Type} {xs : List α} {i : Nat} (h : i < xs.length) : ∃ r, xs[i]? = some r := ⟨xs[i], by simp [h]⟩

theorem rcells_inj {a b : Rt} (h : rcells a = rcells b) : a = b := by
  have hp : pcells a.p = pcells b.p := Array.ext_getElem? fun j => by
    rcases Nat.lt_or_ge j 18 with hj | hj
    · rw [← rcells_p a j hj, ← rcells_p b j hj, h]
    · rw [Array.getElem?_eq_none (by rw [pcells_size]; exact hj), Array.getElem?_eq_none (by rw [pcells_size]; exact hj)]
  have hh := rcells_hop a
  rw [h, rcells_hop b] at hh
  have e1 : b.hop = a.hop := by
    apply UInt16.toNat_inj.1
    simp only [Option.some.injEq, Value.int.injEq, true_and] at hh
    omega
  obtain ⟨p, q⟩ := a
  obtain ⟨p', q'⟩ := b
  simp only at e1 hp
  rw [pcells_inj hp, e1]

theorem list_no {α : Type} {xs ys : List α} {i : Nat} {a b : α} (ha : xs[i]? = some a) (hb : ys[i]? = some b) (h : ¬ a = b) : ¬ xs = ys := fun e => by
  rw [e, hb] at ha; exact h (Option.some.inj ha).symm
theorem list_all {α : Type} {xs ys : List α} (hl : xs.length = ys.length) (h : ∀ j, j < xs.length → xs[j]? = ys[j]?) : xs = ys := List.ext_getElem? fun j => by
  rcases Nat.lt_or_ge j xs.length with hj | hj
  · exact h j hj
  · rw [List.getElem?_eq_none hj, List.getElem?_eq_none (by omega)]

end Go.Kb

/- Keys, prefixes and routes as texts. No program in sight. -/
namespace Go.Kb
open Go.Eng
variable {s : Txt} {c : UInt8} {k : Key}
def hexc (n : Nat) : UInt8 := if n < 10 then UInt8.ofNat (48 + n) else UInt8.ofNat (87 + n)
def hexO (c : UInt8) : Option Nat := if 48 ≤ c.toNat ∧ c.toNat ≤ 57 then some (c.toNat - 48) else if 97 ≤ c.toNat ∧ c.toNat ≤ 102 then some (c.toNat - 87) else none
theorem hexc_toNat {n : Nat} (h : n < 16) : (hexc n).toNat = if n < 10 then 48 + n else 87 + n := by
  unfold hexc
  split
  · rw [UInt8.toNat_ofNat']; omega
  · rw [UInt8.toNat_ofNat']; omega
theorem hex_iff {n : Nat} (h : n < 16) : hexO c = some n ↔ c = hexc n := by
  have ht := hexc_toNat h
  constructor
  · intro h1
    apply UInt8.toNat_inj.1
    rw [ht]
    unfold hexO at h1
    split at h1
    · have := Option.some.inj h1; split <;> omega
    · split at h1
      · have := Option.some.inj h1; split <;> omega
      · cases h1
  · rintro rfl
    unfold hexO
    rw [ht]
    split
    · rw [if_pos (by omega)]; congr 1; omega
    · rw [if_neg (by omega), if_pos (by omega)]; congr 1; omega
theorem hex_lt {n : Nat} (h : hexO c = some n) : n < 16 := by
  unfold hexO at h
  split at h
  · have := Option.some.inj h; omega
  · split at h
    · have := Option.some.inj h; omega
    · cases h
theorem hexc_no {n : Nat} (h : n < 16) {c : UInt8} (hc : hexO c = none) : hexc n ≠ c := fun e => by
  have := (hex_iff h).2 e.symm
  rw [hc] at this; cases this
def shortT (k : Key) : Txt := dec (kbyte k 0) ++ 46 :: (dec (kbyte k 1) ++ 46 :: (dec (kbyte k 2) ++ 46 :: dec (kbyte k 3)))
def nib (k : Key) (i : Nat) : Nat := if i % 2 = 0 then kbyte k (i / 2) / 16 else kbyte k (i / 2) % 16
theorem nib_lt (k : Key) (i : Nat) : nib k i < 16 := by
  have := kbyte_lt k (i / 2)
  unfold nib; split <;> omega
def wideT (k : Key) : Txt := (List.range 32).map fun i => hexc (nib k i)
def keyT (k : Key) (bits : Int) : Txt := if bits = 32 then shortT k else wideT k
def four (a b c d : Nat) : Key := kof fun i => if i = 0 then a else if i = 1 then b else if i = 2 then c else if i = 3 then d else 0
def shortO (s : Txt) : Option Key := match splitL 46 s with
  | [a, b, c, d] => match numO a 255, numO b 255, numO c 255, numO d 255 with
    | some a, some b, some c, some d => some (four a b c d)
    | _, _, _, _ => none
  | _ => none
def allHex (s : Txt) : Bool := s.all fun c => (hexO c).isSome
def hexAt (s : Txt) (i : Nat) : Nat := (hexO (s.getD i 0)).getD 0
def wideK (s : Txt) : Key := kof fun i => 16 * hexAt s (2 * i) + hexAt s (2 * i + 1)
def wideO (s : Txt) : Option Key := if s.length = 32 ∧ allHex s = true then some (wideK s) else none
def keyO (s : Txt) : Option (Key × Int) := match shortO s with
  | some k => some (k, 32)
  | none => (wideO s).map fun k => (k, 128)
theorem four_byte {a b c d : Nat} (ha : a ≤ 255) (hb : b ≤ 255) (hc : c ≤ 255) (hd : d ≤ 255) {i : Nat} (hi : i < 16) : kbyte (four a b c d) i = if i = 0 then a else if i = 1 then b else if i = 2 then c else if i = 3 then d else 0 := by
  rw [four, kbyte_kof _ _ hi]
  split
  · omega
  · split
    · omega
    · split
      · omega
      · split <;> omega
theorem cut32_iff : kcut k 32 = k ↔ ∀ i, 4 ≤ i → i < 16 → kbyte k i = 0 := by
  constructor
  · intro h i h1 h2
    have := kbyte_kcut k 32 i h2
    rw [show kcut k ((32 : Nat) : Int) = k from h] at this
    rw [this, if_neg (by omega)]
    split
    · have hb := kbyte_lt k i
      obtain rfl : i = 4 := by omega
      rw [show (8 - (32 - 8 * 4)) = 8 by decide]; omega
    · rfl
  · intro h
    refine key_ext_byte fun i hi => ?_
    rw [show kcut k 32 = kcut k ((32 : Nat) : Int) from rfl, kbyte_kcut k 32 i hi]
    split
    · rfl
    · have := h i (by omega) hi
      rw [this]; split <;> simp
theorem short_iff : shortO s = some k ↔ kcut k 32 = k ∧ s = shortT k := by
  constructor
  · intro h
    unfold shortO at h
    split at h
    · rename_i a b c d hs
      obtain ⟨u1, e1, _, h1⟩ := split_is_cons hs
      obtain ⟨u2, e2, _, h2⟩ := split_is_cons h1
      obtain ⟨u3, e3, _, h3⟩ := split_is_cons h2
      obtain ⟨e4, _⟩ := split_is_one h3
      split at h
      · rename_i na nb nc nd ha hb hc hd
        obtain ⟨ea, la⟩ := num_iff.1 ha
        obtain ⟨eb, lb⟩ := num_iff.1 hb
        obtain ⟨ec, lc⟩ := num_iff.1 hc
        obtain ⟨ed, ld⟩ := num_iff.1 hd
        obtain rfl := Option.some.inj h
        refine ⟨cut32_iff.2 fun i h1 h2 => ?_, ?_⟩
        · rw [four_byte la lb lc ld h2, if_neg (by omega), if_neg (by omega), if_neg (by omega), if_neg (by omega)]
        · rw [shortT, four_byte la lb lc ld (by decide), four_byte la lb lc ld (by decide), four_byte la lb lc ld (by decide), four_byte la lb lc ld (by decide)]
          simp only [if_true, Nat.one_ne_zero, if_false, (by decide : (2 : Nat) ≠ 0), (by decide : (2 : Nat) ≠ 1), (by decide : (3 : Nat) ≠ 0), (by decide : (3 : Nat) ≠ 1), (by decide : (3 : Nat) ≠ 2)]
          rw [e1, e2, e3, e4, ea, eb, ec, ed]
      · cases h
    · cases h
  · rintro ⟨h, rfl⟩
    have hn : ∀ n, (46 : UInt8) ∉ dec n := fun n => dec_no (by decide)
    have hs : splitL 46 (shortT k) = [dec (kbyte k 0), dec (kbyte k 1), dec (kbyte k 2), dec (kbyte k 3)] := by
      rw [shortT, split_two (hn _), split_two (hn _), split_two (hn _), split_one (hn _)]
    have hl : ∀ i, kbyte k i ≤ 255 := fun i => by have := kbyte_lt k i; omega
    have e : shortO (shortT k) = some (four (kbyte k 0) (kbyte k 1) (kbyte k 2) (kbyte k 3)) := by
      unfold shortO
      rw [hs]
      simp only [num_dec (hl _)]
    rw [e]
    refine congrArg some (key_ext_byte fun i hi => ?_)
    rw [four_byte (hl _) (hl _) (hl _) (hl _) hi]
    rcases Nat.lt_or_ge i 4 with h4 | h4
    · have : i = 0 ∨ i = 1 ∨ i = 2 ∨ i = 3 := by omega
      rcases this with rfl | rfl | rfl | rfl <;> simp
    · rw [if_neg (by omega), if_neg (by omega), if_neg (by omega), if_neg (by omega), cut32_iff.1 h i h4 hi]
theorem wide_get (k : Key) {i : Nat} (h : i < 32) : (wideT k)[i]? = some (hexc (nib k i)) := by simp [wideT, h]
theorem wide_len (k : Key) : (wideT k).length = 32 := by simp [wideT]
theorem wide_hex (k : Key) {i : Nat} (h : i < 32) : hexAt (wideT k) i = nib k i := by
  unfold hexAt
  rw [List.getD, wide_get k h, Option.getD_some, (hex_iff (nib_lt k i)).2 rfl]; rfl
theorem wide_all (k : Key) : allHex (wideT k) = true := by
  unfold allHex wideT
  rw [List.all_map, List.all_eq_true]
  intro i _
  simp only [Function.comp]
  rw [(hex_iff (nib_lt k i)).2 rfl]; rfl
theorem wide_iff : wideO s = some k ↔ s = wideT k := by
  constructor
  · intro h
    unfold wideO at h
    split at h
    · rename_i h1
      obtain ⟨hl, ha⟩ := h1
      obtain rfl := Option.some.inj h
      have hh : ∀ i, i < 32 → ∃ n, n < 16 ∧ s[i]? = some (hexc n) ∧ hexAt s i = n := fun i hi => by
        have hil : i < s.length := by omega
        have hm : s[i]? = some (s.getD i 0) := by simp [List.getD, hil]
        have := List.all_eq_true.1 ha _ (List.mem_of_getElem? hm)
        obtain ⟨n, hn⟩ := Option.isSome_iff_exists.1 this
        have hlt := hex_lt hn
        exact ⟨n, hlt, by rw [hm, (hex_iff hlt).1 hn], by rw [hexAt, hn]; rfl⟩
      have hb : ∀ j, j < 16 → kbyte (wideK s) j = 16 * hexAt s (2 * j) + hexAt s (2 * j + 1) := fun j hj => by
        obtain ⟨n, h1, _, h2⟩ := hh (2 * j) (by omega)
        obtain ⟨m, h3, _, h4⟩ := hh (2 * j + 1) (by omega)
        rw [wideK, kbyte_kof _ _ hj]; omega
      refine List.ext_getElem? fun i => ?_
      rcases Nat.lt_or_ge i 32 with hi | hi
      · obtain ⟨n, h1, h2, h3⟩ := hh i hi
        rw [h2, wide_get _ hi]
        have hn : nib (wideK s) i = n := by
          unfold nib
          rw [hb (i / 2) (by omega)]
          have hlo := fun j (hj : j < 32) => hh j hj
          split
          · rename_i he
            obtain ⟨m, h5, _, h6⟩ := hh (2 * (i / 2) + 1) (by omega)
            rw [show 2 * (i / 2) = i by omega, h3, show i + 1 = 2 * (i / 2) + 1 by omega, h6]; omega
          · rename_i he
            obtain ⟨m, h5, _, h6⟩ := hh (2 * (i / 2)) (by omega)
            rw [show 2 * (i / 2) + 1 = i by omega, h3, h6]; omega
        rw [hn]
      · rw [List.getElem?_eq_none (by omega), List.getElem?_eq_none (by rw [wide_len]; omega)]
    · cases h
  · rintro rfl
    unfold wideO
    rw [if_pos ⟨wide_len k, wide_all k⟩]
    congr 1
    refine key_ext_byte fun j hj => ?_
    rw [wideK, kbyte_kof _ _ hj, wide_hex k (by omega), wide_hex k (by omega)]
    have hb := kbyte_lt k j
    have e1 : nib k (2 * j) = kbyte k j / 16 := by unfold nib; rw [if_pos (by omega), show 2 * j / 2 = j by omega]
    have e2 : nib k (2 * j + 1) = kbyte k j % 16 := by unfold nib; rw [if_neg (by omega), show (2 * j + 1) / 2 = j by omega]
    rw [e1, e2]; omega
theorem wide_no (k : Key) {c : UInt8} (hc : hexO c = none) : c ∉ wideT k := fun h => by
  obtain ⟨i, _, hi⟩ := List.mem_map.1 h
  exact hexc_no (nib_lt k i) hc hi
theorem wide_not_short (k : Key) : shortO (wideT k) = none := by
  unfold shortO
  rw [split_one (wide_no k (by decide))]
theorem key_iff {b : Int} : keyO s = some (k, b) ↔ pmay ⟨b, b, k⟩ = true ∧ s = keyT k b := by
  rw [pmay_iff]
  simp only
  constructor
  · intro h
    unfold keyO at h
    split at h
    · rename_i k' hk
      obtain ⟨rfl, rfl⟩ := Prod.mk.inj (Option.some.inj h)
      obtain ⟨h1, h2⟩ := short_iff.1 hk
      exact ⟨⟨.inl rfl, by decide, Int.le_refl _, h1⟩, by rw [keyT, if_pos rfl]; exact h2⟩
    · obtain ⟨k', hk, he⟩ := Option.map_eq_some_iff.1 h
      obtain ⟨rfl, rfl⟩ := Prod.mk.inj he
      exact ⟨⟨.inr rfl, by decide, Int.le_refl _, kcut_all _ _ (Int.le_refl _)⟩, by rw [keyT, if_neg (by decide)]; exact wide_iff.1 hk⟩
  · rintro ⟨⟨h1, _, _, h2⟩, rfl⟩
    rcases h1 with rfl | rfl
    · rw [keyT, if_pos rfl, keyO, short_iff.2 ⟨h2, rfl⟩]
    · rw [keyT, if_neg (by decide), keyO, wide_not_short, wide_iff.2 rfl]; rfl
def pfxT (p : Pfx) : Txt := keyT p.key p.bits ++ 47 :: dec p.len.toNat
def pfxO (s : Txt) : Option Pfx := match splitL 47 s with
  | [a, b] => match keyO a, numO b 128 with
    | some (k, bits), some n => if pmay ⟨bits, (n : Int), k⟩ = true then some ⟨bits, (n : Int), k⟩ else none
    | _, _ => none
  | _ => none
theorem key_no {k : Key} {b : Int} {c : UInt8} (h1 : hexO c = none) (h2 : c ≠ 46) (h3 : dig c = false) : c ∉ keyT k b := by
  unfold keyT
  split
  · unfold shortT
    have hn : ∀ n, c ∉ dec n := fun n => dec_no h3
    simp [hn, h2]
  · exact wide_no k h1
theorem may_whole {p : Pfx} (h : pmay p = true) : pmay ⟨p.bits, p.bits, p.key⟩ = true := by
  obtain ⟨h1, h2, h3, h4⟩ := (pmay_iff p).1 h
  refine (pmay_iff _).2 ⟨h1, by simp only; omega, Int.le_refl _, ?_⟩
  show kcut p.key p.bits = p.key
  conv => lhs; rw [← h4]
  rw [kcut_cut, show min p.len p.bits = p.len by omega, h4]
theorem pfx_iff {p : Pfx} : pfxO s = some p ↔ pmay p = true ∧ s = pfxT p := by
  constructor
  · intro h
    unfold pfxO at h
    split at h
    · rename_i a b hs
      obtain ⟨u, e1, _, h1⟩ := split_is_cons hs
      obtain ⟨e2, _⟩ := split_is_one h1
      split at h
      · rename_i k bits n hk hn
        split at h
        · rename_i hm
          obtain rfl := Option.some.inj h
          refine ⟨hm, ?_⟩
          obtain ⟨_, ek⟩ := key_iff.1 hk
          obtain ⟨en, _⟩ := num_iff.1 hn
          rw [pfxT, e1, e2, ek, en]; rfl
        · cases h
      · cases h
    · cases h
  · rintro ⟨hm, rfl⟩
    obtain ⟨h1, h2, h3, h4⟩ := (pmay_iff p).1 hm
    unfold pfxO
    rw [pfxT, split_two (key_no (by decide) (by decide) (by decide)), split_one (dec_no (by decide))]
    simp only [key_iff.2 ⟨may_whole hm, rfl⟩]
    rw [num_dec (by rcases h1 with h | h <;> omega)]
    have e : (⟨p.bits, ((p.len.toNat : Nat) : Int), p.key⟩ : Pfx) = p := by
      obtain ⟨b, l, k⟩ := p
      simp only at h2 ⊢
      rw [Int.toNat_of_nonneg h2]
    simp only [e, hm, if_true]
def lineT (r : Rt) : Txt := pfxT r.p ++ 32 :: dec r.hop.toNat
def lineO (s : Txt) : Option Rt := match splitL 32 s with
  | [a, b] => match pfxO a, numO b 65535 with
    | some p, some n => some ⟨p, UInt16.ofNat n⟩
    | _, _ => none
  | _ => none
theorem pfx_no {p : Pfx} : (32 : UInt8) ∉ pfxT p := by
  unfold pfxT
  rw [List.mem_append, List.mem_cons]
  rintro (h | h | h)
  · exact key_no (by decide) (by decide) (by decide) h
  · cases h
  · exact dec_no (by decide) h
theorem line_iff {r : Rt} : lineO s = some r ↔ pmay r.p = true ∧ s = lineT r := by
  constructor
  · intro h
    unfold lineO at h
    split at h
    · rename_i a b hs
      obtain ⟨u, e1, _, h1⟩ := split_is_cons hs
      obtain ⟨e2, _⟩ := split_is_one h1
      split at h
      · rename_i p n hp hn
        obtain rfl := Option.some.inj h
        obtain ⟨hm, ep⟩ := pfx_iff.1 hp
        obtain ⟨en, ln⟩ := num_iff.1 hn
        refine ⟨hm, ?_⟩
        rw [lineT, e1, e2, ep, en]
        have : (UInt16.ofNat n).toNat = n := by rw [UInt16.toNat_ofNat']; omega
        simp only [this]
      · cases h
    · cases h
  · rintro ⟨hm, rfl⟩
    unfold lineO
    rw [lineT, split_two pfx_no, split_one (dec_no (by decide))]
    simp only [pfx_iff.2 ⟨hm, rfl⟩]
    rw [num_dec (by have := r.hop.toNat_lt; omega)]
    simp only [UInt16.ofNat_toNat]
theorem key_len {k : Key} {b : Int} : (keyT k b).length ≤ 32 := by
  unfold keyT
  split
  · unfold shortT
    have hl : ∀ i, (dec (kbyte k i)).length ≤ 3 := fun i => dec_len 3 _ (by have := kbyte_lt k i; omega) (by decide)
    have h0 := hl 0; have h1 := hl 1; have h2 := hl 2; have h3 := hl 3
    simp only [List.length_append, List.length_cons]; omega
  · rw [wide_len]; omega
theorem pfx_len {p : Pfx} (h : pmay p = true) : (pfxT p).length ≤ 36 := by
  obtain ⟨h1, h2, h3, _⟩ := (pmay_iff p).1 h
  have := key_len (k := p.key) (b := p.bits)
  have hd := dec_len 3 p.len.toNat (by rcases h1 with h | h <;> omega) (by decide)
  unfold pfxT
  simp only [List.length_append, List.length_cons]; omega
theorem line_len {r : Rt} (h : pmay r.p = true) : (lineT r).length ≤ 42 := by
  have := pfx_len h
  have hd := dec_len 5 r.hop.toNat (by have := r.hop.toNat_lt; omega) (by decide)
  unfold lineT
  simp only [List.length_append, List.length_cons]; omega
end Go.Kb

/- Numbers in texts, read byte by byte. No program in sight. -/
namespace Go.Kb
open Go.Eng
variable {s : Txt} {i n top : Nat} {c : UInt8}
def hexI (c : UInt8) : Int := match hexO c with
  | some n => (n : Int)
  | none => -1
def numI (s : Txt) (top : Nat) : Int := match numO s top with
  | some n => (n : Int)
  | none => -1
theorem take_getD (h : i < s.length) : s.take (i + 1) = s.take i ++ [s.getD i 0] := by
  rw [List.take_succ_eq_append_getElem h]; simp [List.getD, h]
theorem val_take (h : i < s.length) : val (s.take (i + 1)) = 10 * val (s.take i) + ((s.getD i 0).toNat - 48) := by rw [take_getD h, val_snoc]
theorem dig_take (h : i < s.length) (h1 : (s.take i).all dig = true) (h2 : 48 ≤ (s.getD i 0).toNat ∧ (s.getD i 0).toNat ≤ 57) : (s.take (i + 1)).all dig = true := by
  rw [take_getD h, List.all_append, h1]
  simp only [List.all_cons, List.all_nil, dig]
  simpa using h2
theorem val_lt : ∀ k (s : Txt), s.length = k → s.all dig = true → val s < 10 ^ k := by
  intro k
  induction k with
  | zero => intro s hl _; rw [List.length_eq_zero_iff.1 hl]; simp [val]
  | succ k ih =>
    intro s hl hd
    obtain ⟨t, c, rfl⟩ : ∃ t c, s = t ++ [c] := by
      rcases List.eq_nil_or_concat s with h | ⟨t, c, h⟩
      · subst h; simp at hl
      · exact ⟨t, c, by simpa using h⟩
    rw [List.all_append, Bool.and_eq_true] at hd
    have hc : 48 ≤ c.toNat ∧ c.toNat ≤ 57 := by
      have := hd.2
      simpa [dig] using this
    have := ih t (by simpa using hl) hd.1
    rw [val_snoc, Nat.pow_succ]; omega
theorem take_lt (h : i ≤ 5) (hi : i ≤ s.length) (h1 : (s.take i).all dig = true) : val (s.take i) < 100000 := by
  have := val_lt i (s.take i) (by simp; omega) h1
  exact Nat.lt_of_lt_of_le this (Nat.pow_le_pow_right (by decide) h)
theorem val_mono (a b : Txt) : val a ≤ val (a ++ b) := by
  have key : ∀ (b : Txt) (m : Nat), m ≤ b.foldl (fun a c => 10 * a + (c.toNat - 48)) m := by
    intro b
    induction b with
    | nil => intro m; exact Nat.le_refl _
    | cons x b ih => intro m; exact Nat.le_trans (show m ≤ 10 * m + (x.toNat - 48) by omega) (ih _)
  unfold val
  rw [List.foldl_append]; exact key b _
theorem head_getD (h : 0 < s.length) : s.head? = some (s.getD 0 0) := by
  cases s with
  | nil => simp at h
  | cons x s => rfl
theorem num_bad (ht : top ≤ 65535) (h : s.length = 0 ∨ 5 < s.length ∨ (1 < s.length ∧ (s.getD 0 0).toNat = 48)) : numO s top = none := by
  cases e : numO s top with
  | none => rfl
  | some n =>
    obtain ⟨rfl, hn⟩ := num_iff.1 e
    have hl := dec_len 5 n (by omega) (by decide)
    have hp := dec_plain n
    have h0 := List.length_pos_iff.2 hp.1
    rcases h with h | h | ⟨h, h2⟩
    · omega
    · omega
    · rcases hp.2 with h3 | h3
      · omega
      · rw [head_getD h0] at h3
        exact absurd (congrArg some (UInt8.toNat_inj.1 h2 : (dec n).getD 0 0 = 48)) h3
theorem num_head (h : s = [] ∨ (1 < s.length ∧ (s.getD 0 0).toNat = 48)) : numO s top = none := by
  cases e : numO s top with
  | none => rfl
  | some n =>
    obtain ⟨rfl, hn⟩ := num_iff.1 e
    have hp := dec_plain n
    have h0 := List.length_pos_iff.2 hp.1
    rcases h with h | ⟨h, h2⟩
    · exact absurd h hp.1
    · rcases hp.2 with h3 | h3
      · omega
      · rw [head_getD h0] at h3
        exact absurd (congrArg some (UInt8.toNat_inj.1 h2 : (dec n).getD 0 0 = 48)) h3
theorem num_char (h : i < s.length) (h2 : (s.getD i 0).toNat < 48 ∨ 57 < (s.getD i 0).toNat) : numO s top = none := by
  cases e : numO s top with
  | none => rfl
  | some n =>
    obtain ⟨rfl, hn⟩ := num_iff.1 e
    have := List.all_eq_true.1 (dec_all n) ((dec n).getD i 0) (by simp [List.getD, h])
    simp only [dig, decide_eq_true_eq] at this; omega
theorem num_big (h : top < val (s.take i)) : numO s top = none := by
  cases e : numO s top with
  | none => rfl
  | some n =>
    obtain ⟨rfl, hn⟩ := num_iff.1 e
    have := val_mono ((dec n).take i) ((dec n).drop i)
    rw [List.take_append_drop, val_dec] at this; omega
theorem num_ok (h : s ≠ []) (h1 : ¬ (1 < s.length ∧ (s.getD 0 0).toNat = 48)) (h2 : s.all dig = true) (h3 : val s ≤ top) : numO s top = some (val s) := by
  unfold numO
  rw [if_pos]
  refine ⟨h, ?_, h2, h3⟩
  have h0 := List.length_pos_iff.2 h
  rcases Nat.lt_or_ge 1 s.length with h4 | h4
  · right
    rw [head_getD h0]
    intro e
    exact h1 ⟨h4, by rw [Option.some.inj e]; rfl⟩
  · exact .inl h4
end Go.Kb

/- A text cut at a sign, byte by byte. No program in sight. -/
namespace Go.Kb
open Go.Eng
variable {s : Txt} {i n st : Nat} {c : UInt8}
theorem drop_cut (h : i < s.length) (hs : st ≤ i) : s.drop st = (s.drop st).take (i - st) ++ s.getD i 0 :: s.drop (i + 1) := by
  have h1 : s.drop st = (s.drop st).take (i - st) ++ (s.drop st).drop (i - st) := (List.take_append_drop _ _).symm
  rw [List.drop_drop, show st + (i - st) = i by omega] at h1
  have h2 : s.drop i = s.getD i 0 :: s.drop (i + 1) := by
    rw [List.drop_eq_getElem_cons h]; simp [List.getD, h]
  rw [h2] at h1; exact h1
theorem cut_hit (h : i < s.length) (hs : st ≤ i) (he : (s.getD i 0).toNat = c.toNat) (hc : c ∉ (s.drop st).take (i - st)) : splitL c (s.drop st) = (s.drop st).take (i - st) :: splitL c (s.drop (i + 1)) := by
  have e : s.getD i 0 = c := UInt8.toNat_inj.1 he
  have h1 := drop_cut h hs
  rw [e] at h1
  have := split_two (c := c) (t := s.drop (i + 1)) hc
  rw [← h1] at this; exact this
theorem cut_end (hs : st ≤ i) (hi : i = s.length) (hc : c ∉ (s.drop st).take (i - st)) : splitL c (s.drop st) = [(s.drop st).take (i - st)] := by
  have e : (s.drop st).take (i - st) = s.drop st := List.take_of_length_le (by simp; omega)
  rw [e] at hc ⊢
  exact split_one hc
theorem cut_miss (h : i < s.length) (hs : st ≤ i) (he : (s.getD i 0).toNat ≠ c.toNat) (hc : c ∉ (s.drop st).take (i - st)) : c ∉ (s.drop st).take (i + 1 - st) := by
  rw [show i + 1 - st = (i - st) + 1 by omega]
  have hl : i - st < (s.drop st).length := by simp; omega
  rw [take_getD hl, List.mem_append]
  rintro (h1 | h1)
  · exact hc h1
  · have e : (s.drop st).getD (i - st) 0 = s.getD i 0 := by simp [List.getD, show st + (i - st) = i by omega]
    rw [e] at h1
    exact he (by rw [List.mem_singleton.1 h1])
def Cutting (c : UInt8) (s : Txt) (i st : Nat) (ps : List Txt) : Prop := (i ≤ s.length ∧ st ≤ i ∧ splitL c s = ps ++ splitL c (s.drop st) ∧ c ∉ (s.drop st).take (i - st)) ∨ (i = s.length + 1 ∧ ps = splitL c s)
theorem cutting_0 (c : UInt8) (s : Txt) : Cutting c s 0 0 [] := .inl ⟨Nat.zero_le _, Nat.le_refl _, rfl, by simp⟩
variable {ps : List Txt}
theorem Cutting.hit (h : Cutting c s i st ps) (hi : i ≤ s.length) (he : i = s.length ∨ (s.getD i 0).toNat = c.toNat) : Cutting c s (i + 1) (i + 1) (ps ++ [(s.drop st).take (i - st)]) := by
  rcases h with ⟨h1, h2, h3, h4⟩ | ⟨h1, _⟩
  · by_cases hl : i = s.length
    · exact .inr ⟨by omega, by rw [h3, cut_end h2 hl h4]⟩
    · have he' : (s.getD i 0).toNat = c.toNat := he.resolve_left hl
      exact .inl ⟨by omega, Nat.le_refl _, by rw [h3, cut_hit (by omega) h2 he' h4]; simp, by simp⟩
  · omega
theorem Cutting.miss (h : Cutting c s i st ps) (hi : i ≤ s.length) (he : ¬ (i = s.length ∨ (s.getD i 0).toNat = c.toNat)) : Cutting c s (i + 1) st ps := by
  rcases h with ⟨h1, h2, h3, h4⟩ | ⟨h1, _⟩
  · exact .inl ⟨by omega, by omega, h3, cut_miss (by omega) h2 (fun e => he (.inr e)) h4⟩
  · omega
theorem Cutting.done (h : Cutting c s i st ps) (hi : s.length < i) : ps = splitL c s := by
  rcases h with ⟨h1, _⟩ | ⟨_, h2⟩
  · omega
  · exact h2
theorem Cutting.le (h : Cutting c s i st ps) (hi : i ≤ s.length) : st ≤ i ∧ i ≤ s.length := by
  rcases h with ⟨_, h2, _⟩ | ⟨h1, _⟩
  · exact ⟨h2, hi⟩
  · omega
theorem split_mem {x : Txt} : ∀ (s : Txt), x ∈ splitL c s → x.length ≤ s.length := by
  intro s
  have key : ∀ n (s : Txt), s.length ≤ n → x ∈ splitL c s → x.length ≤ s.length := by
    intro n
    induction n with
    | zero =>
      intro s hs hx
      obtain rfl := List.length_eq_zero_iff.1 (Nat.le_zero.1 hs)
      simp [splitL] at hx; simp [hx]
    | succ n ih =>
      intro s hs hx
      rcases split_cases (c := c) s with ⟨_, h2⟩ | ⟨a, b, h1, _, h3⟩
      · rw [h2, List.mem_singleton] at hx; rw [hx]; exact Nat.le_refl _
      · rw [h3, List.mem_cons] at hx
        have hl : s.length = a.length + (b.length + 1) := by rw [h1]; simp
        rcases hx with rfl | hx
        · omega
        · have := ih b (by omega) hx; omega
  exact key s.length s (Nat.le_refl _)
end Go.Kb

/- A key's bytes: as a slice, one by one. -/
namespace Go.Kb
open Go.Eng
variable {k : Key} {i n : Nat} {s : Txt} {c : UInt8}
def kbytes (k : Key) : List UInt8 := (List.range 16).map fun i => UInt8.ofNat (kbyte k i)
theorem kbytes_get (k : Key) (h : i < 16) : (kbytes k)[i]? = some (UInt8.ofNat (kbyte k i)) := by simp [kbytes, h]
theorem kb_toNat (k : Key) (i : Nat) : (UInt8.ofNat (kbyte k i)).toNat = kbyte k i := by
  have := kbyte_lt k i
  rw [UInt8.toNat_ofNat']; omega
theorem four_len (k : Key) : ((kbytes k).take 4).length = 4 := by simp [kbytes]
instance key4 {w0 : World} {L : List Ent} {b j : Nat} {T : TypeId} [h : Has L b (kcells k) T j] : Hd w0 L ⟨false, b, 0, 4, 16, none⟩ benc 1 ((kbytes k).take 4) := ⟨fun w hw => by
  have hb : hp w b = some (.cells (kcells k) T (0, 0)) := hw.get h.h
  refine ⟨⟨(fun e => Bool.noConfusion e), (by show 4 ≤ 16; decide), (by show 4 ≤ 140737488355328; decide), fun _ => rfl⟩, (four_len k).symm, fun i x hx m hm => ?_⟩
  obtain rfl : m = 0 := by omega
  have hi : i < 4 := by
    have := (List.getElem?_eq_some_iff.1 hx).1
    rw [four_len] at this; exact this
  rw [List.getElem?_take, if_pos hi, kbytes_get k (by omega)] at hx
  obtain rfl := Option.some.inj hx
  have e : cellH (hp w) b (0 + i * 1 + 0) = (kcells k)[i]? := by
    unfold cellH
    rw [hb]
    simp
  rw [e, kcells_get k i (by omega)]
  show some (Value.int .u8 ((kbyte k i : Nat) : Int)) = some (Value.int .u8 ((UInt8.ofNat (kbyte k i)).toNat : Nat))
  rw [kb_toNat]⟩
section
variable {P : Program} {N : Fra} {w0 : World} {env : Env} {L : List Ent} {d : Option Tmp} {ty t u : TypeId} {ps : String} {af : Array Edge} {gd : Option (Nat × Bool)}
theorem ry_ixKey {e : TypeId} {x ix : Operand} {kk : IntKind} {j : Int} (hu : P.underlying t = some (.array 16 e)) [he : OneT P e] (hx : ev env x = some (.agg (kcells k))) (hj : ev env ix = some (.int kk j)) (b : Nat) (ej : j = (b : Int)) (hb : b < 16) :
    Ry P N w0 env L ⟨d, .index t x ix, ty, ps, af, gd⟩ (.int .u8 ((kbyte k b : Nat) : Int)) := fun ac w ha _ => by
  subst ej
  obtain ⟨⟨de, h1, h2⟩, h3⟩ := he
  have g : (b : Int) < ((16 : Nat) : Int) := by omega
  have hk : (kcells k)[b]! = .int .u8 ((kbyte k b : Nat) : Int) := by
    rw [getElem!_def, kcells_get k b hb]
  have hk2 : (kcells k)[b]? = some (.int .u8 ((kbyte k b : Nat) : Int)) := kcells_get k b hb
  simp only [execOp, ha.ev hx, ha.ev hj, Instr.index, asIntOf, Sem.run_bind, run_underlying hu, Result.andThen, Sem.run_pure, Int.natCast_nonneg, true_and, g, if_true, Int.toNat_natCast, run_sizeOf' w h3, part, run_isAgg' w h1, h2, Nat.mul_one, hk, hk2]
  rfl
end
/-! Texts of keys. -/
def joinT (sep : Txt) (xs : List Txt) : Txt := Lib.join xs sep
theorem joinT_two (c : UInt8) (a b : Txt) : joinT [c] [a, b] = a ++ c :: b := by simp [joinT, Lib.join, List.intercalate]
theorem joinT_four (k : Key) : joinT [46] (((kbytes k).take 4).map fun b => dec b.toNat) = shortT k := by
  have e : (kbytes k).take 4 = [UInt8.ofNat (kbyte k 0), UInt8.ofNat (kbyte k 1), UInt8.ofNat (kbyte k 2), UInt8.ofNat (kbyte k 3)] := rfl
  rw [e]
  simp only [List.map_cons, List.map_nil, kb_toNat]
  simp [joinT, Lib.join, List.intercalate, shortT]
def keyB (k : Key) (n : Int) : Bool := pmay ⟨n, n, k⟩
def keyS (k : Key) (n : Int) : Txt := if keyB k n = true then keyT k n else []
def errB (b : Bool) : Int := if b = true then 0 else 1
theorem hexStep (k : Key) (h : i < 32) : ((⟨([48, 49, 50, 51, 52, 53, 54, 55, 56, 57, 97, 98, 99, 100, 101, 102] : Txt).toArray⟩ : ByteArray)[nib k i]?).map (·.toNat) = some (hexc (nib k i)).toNat := by
  have hn := nib_lt k i
  have key : ∀ n, n < 16 → ((⟨([48, 49, 50, 51, 52, 53, 54, 55, 56, 57, 97, 98, 99, 100, 101, 102] : Txt).toArray⟩ : ByteArray)[n]?).map (·.toNat) = some (hexc n).toNat := by decide
  exact key _ hn
theorem hexc_lt (h : n < 16) : (hexc n).toNat < 128 := by
  rw [hexc_toNat h]; split <;> omega
theorem wide_take (k : Key) (h : i < 32) : (wideT k).take (i + 1) = (wideT k).take i ++ [hexc (nib k i)] := by
  rw [List.take_add_one, wide_get k h]; rfl
theorem step_nib (k : Key) (h : i < 32) : kstep k (i : Int) = ((nib k i : Nat) : Int) := by
  rcases Nat.mod_two_eq_zero_or_one i with e | e
  · rw [kstep_even k i (by omega) (by omega) (by omega), nib, if_pos e]
    rw [show ((i : Int) / 2).toNat = i / 2 by omega]
  · rw [kstep_odd k i (by omega) (by omega) (by omega), nib, if_neg (by omega)]
    rw [show ((i : Int) / 2).toNat = i / 2 by omega]
end Go.Kb
namespace Go.Kb
open Go.Eng
theorem keyB_iff {k : Key} {n : Int} : keyB k n = true ↔ (n = 32 ∨ n = 128) ∧ kcut k n = k := by
  unfold keyB
  simp only [pmay, Bool.and_eq_true, Bool.or_eq_true, decide_eq_true_eq]
  constructor
  · intro h; exact ⟨by omega, by simp_all⟩
  · intro h; simp_all; omega
theorem keyB_no {k : Key} {n : Int} (h : ¬ (n = 32 ∨ n = 128)) : keyB k n = false := by
  rw [← Bool.not_eq_true, keyB_iff]; exact fun e => h e.1
theorem keyB_cut {k : Key} {n : Int} (h : n = 32 ∨ n = 128) : keyB k n = decide (kcut k n = k) := by
  rw [Bool.eq_iff_iff, keyB_iff, decide_eq_true_iff]; exact ⟨fun e => e.2, fun e => ⟨h, e⟩⟩
end Go.Kb
namespace Go.Kb
open Go.Eng
variable {k : Key} {i : Nat}
def HEX : Txt := [48, 49, 50, 51, 52, 53, 54, 55, 56, 57, 97, 98, 99, 100, 101, 102]
theorem hexAny (n : Nat) (h : n < 16) : ((⟨([48, 49, 50, 51, 52, 53, 54, 55, 56, 57, 97, 98, 99, 100, 101, 102] : Txt).toArray⟩ : ByteArray)[n]?).map (·.toNat) = some (hexc n).toNat := by
  have key : ∀ n, n < 16 → ((⟨([48, 49, 50, 51, 52, 53, 54, 55, 56, 57, 97, 98, 99, 100, 101, 102] : Txt).toArray⟩ : ByteArray)[n]?).map (·.toNat) = some (hexc n).toNat := by decide
  exact key n h
theorem nibHi (k : Key) (i : Nat) : kbyte k i / 2 ^ 4 = nib k (2 * i) := by
  rw [nib, if_pos (by omega), show 2 * i / 2 = i by omega]
theorem nibLo (k : Key) (i : Nat) : kbyte k i &&& 15 = nib k (2 * i + 1) := by
  rw [nib, if_neg (by omega), show (2 * i + 1) / 2 = i by omega]
  exact Nat.and_two_pow_sub_one_eq_mod _ 4
theorem hexHi (k : Key) (i : Nat) : ((⟨([48, 49, 50, 51, 52, 53, 54, 55, 56, 57, 97, 98, 99, 100, 101, 102] : Txt).toArray⟩ : ByteArray)[kbyte k i / 2 ^ 4]?).map (·.toNat) = some (hexc (nib k (2 * i))).toNat := by
  rw [nibHi]; exact hexAny _ (nib_lt k _)
theorem hexLo (k : Key) (i : Nat) : ((⟨([48, 49, 50, 51, 52, 53, 54, 55, 56, 57, 97, 98, 99, 100, 101, 102] : Txt).toArray⟩ : ByteArray)[kbyte k i &&& 15]?).map (·.toNat) = some (hexc (nib k (2 * i + 1))).toNat := by
  rw [nibLo]; exact hexAny _ (nib_lt k _)
theorem wide_take2 (k : Key) (h : i < 16) : (wideT k).take (2 * (i + 1)) = (wideT k).take (2 * i) ++ [hexc (nib k (2 * i)), hexc (nib k (2 * i + 1))] := by
  rw [show 2 * (i + 1) = 2 * i + 1 + 1 by omega, wide_take k (by omega), wide_take k (by omega), List.append_assoc]; rfl
theorem four_take (h : i < 4) {x : UInt8} (hx : ((kbytes k).take 4)[i]? = some x) : ((((kbytes k).take 4).take (i + 1)).map fun b => dec b.toNat) = ((((kbytes k).take 4).take i).map fun b => dec b.toNat) ++ [dec x.toNat] := by
  rw [List.take_add_one, hx, List.map_append]; rfl
theorem short_len (k : Key) : (shortT k).length ≤ 15 := by
  have q0 := kbyte_lt k 0
  have q1 := kbyte_lt k 1
  have q2 := kbyte_lt k 2
  have q3 := kbyte_lt k 3
  have l0 := dec_len 3 (kbyte k 0) (by omega) (by decide)
  have l1 := dec_len 3 (kbyte k 1) (by omega) (by decide)
  have l2 := dec_len 3 (kbyte k 2) (by omega) (by decide)
  have l3 := dec_len 3 (kbyte k 3) (by omega) (by decide)
  simp only [shortT, List.length_append, List.length_cons]; omega
theorem keyS_len (k : Key) (n : Int) : (keyS k n).length ≤ 32 := by
  have := short_len k
  have := wide_len k
  unfold keyS keyT
  split
  · split <;> omega
  · simp
theorem four_pre (k : Key) : (((kbytes k).take 4).map fun b => dec b.toNat) ≠ [] ∧ (joinT [46] (((kbytes k).take 4).map fun b => dec b.toNat)).length ≤ 140737488355328 := by
  refine ⟨fun e => ?_, by rw [joinT_four]; have := short_len k; omega⟩
  have := congrArg List.length e
  rw [List.length_map, four_len] at this; cases this
def pfxS (p : Pfx) : Txt := if pmay p = true then pfxT p else []
def lineS (r : Rt) : Txt := if pmay r.p = true then lineT r else []
theorem pmay_key {p : Pfx} (h : pmay p = true) : keyB p.key p.bits = true ∧ 0 ≤ p.len ∧ p.len ≤ 128 := by
  obtain ⟨h1, h2, h3, h4⟩ := (pmay_bits p).1 h
  refine ⟨?_, by omega, by omega⟩
  rw [keyB, pmay_bits]
  exact ⟨h1, by show 0 ≤ p.bits; omega, Int.le_refl _, fun j hj hj2 => h4 j hj (by have : p.bits ≤ (j : Int) := hj2; omega)⟩
theorem join2_pre (a b : Txt) (c : UInt8) (h : a.length + b.length ≤ 1000) : [a, b] ≠ [] ∧ (joinT [c] [a, b]).length ≤ 140737488355328 := by
  refine ⟨by simp, ?_⟩
  rw [joinT_two, List.length_append, List.length_cons]; omega
theorem pfxS_len (p : Pfx) : (pfxS p).length ≤ 36 := by
  unfold pfxS
  split
  · rename_i h
    obtain ⟨h1, h2, h3⟩ := pmay_key h
    have hk := keyS_len p.key p.bits
    rw [keyS, if_pos h1] at hk
    have := dec_len 3 p.len.toNat (by omega) (by decide)
    simp only [pfxT, List.length_append, List.length_cons]; omega
  · simp
end Go.Kb

/- What this translation says of its own types and functions, a row each. -/
namespace Go.Proofs.YtldkgicmfbofiaaGreatDoor
open Go.Eng

instance oneT1 : OneT Tryz.prog 1 := ⟨⟨_, Tryz.underlying1, rfl⟩, by kernel_rfl⟩
instance oneT2 : OneT Tryz.prog 2 := ⟨⟨_, Tryz.underlying2, rfl⟩, by kernel_rfl⟩
instance intT2 : IntT Tryz.prog 2 .i64 := ⟨Tryz.underlying2⟩
instance oneT3 : OneT Tryz.prog 3 := ⟨⟨_, Tryz.underlying3, rfl⟩, by kernel_rfl⟩
instance intT3 : IntT Tryz.prog 3 .i64 := ⟨Tryz.underlying3⟩
instance oneT4 : OneT Tryz.prog 4 := ⟨⟨_, Tryz.underlying4, rfl⟩, by kernel_rfl⟩
instance oneT5 : OneT Tryz.prog 5 := ⟨⟨_, Tryz.underlying5, rfl⟩, by kernel_rfl⟩
instance intT5 : IntT Tryz.prog 5 .u8 := ⟨Tryz.underlying5⟩
instance oneT6 : OneT Tryz.prog 6 := ⟨⟨_, Tryz.underlying6, rfl⟩, by kernel_rfl⟩
instance intT6 : IntT Tryz.prog 6 .u8 := ⟨Tryz.underlying6⟩
instance rowT7 : RowT Tryz.prog 7 4 := ⟨⟨_, Tryz.underlying7, rfl⟩, by kernel_rfl⟩
instance fld7_0 : FieldT Tryz.prog 7 0 0 := ⟨⟨_, _, 0, Tryz.underlying7, rfl, rfl, by kernel_rfl⟩⟩
instance fld7_1 : FieldT Tryz.prog 7 1 1 := ⟨⟨_, _, 0, Tryz.underlying7, rfl, rfl, by kernel_rfl⟩⟩
instance fld7_2 : FieldT Tryz.prog 7 2 2 := ⟨⟨_, _, 0, Tryz.underlying7, rfl, rfl, by kernel_rfl⟩⟩
instance fld7_3 : FieldT Tryz.prog 7 3 3 := ⟨⟨_, _, 0, Tryz.underlying7, rfl, rfl, by kernel_rfl⟩⟩
instance rowT8 : RowT Tryz.prog 8 4 := ⟨⟨_, Tryz.underlying8, rfl⟩, by kernel_rfl⟩
instance fld8_0 : FieldT Tryz.prog 8 0 0 := ⟨⟨_, _, 0, Tryz.underlying8, rfl, rfl, by kernel_rfl⟩⟩
instance fld8_1 : FieldT Tryz.prog 8 1 1 := ⟨⟨_, _, 0, Tryz.underlying8, rfl, rfl, by kernel_rfl⟩⟩
instance fld8_2 : FieldT Tryz.prog 8 2 2 := ⟨⟨_, _, 0, Tryz.underlying8, rfl, rfl, by kernel_rfl⟩⟩
instance fld8_3 : FieldT Tryz.prog 8 3 3 := ⟨⟨_, _, 0, Tryz.underlying8, rfl, rfl, by kernel_rfl⟩⟩
instance oneT9 : OneT Tryz.prog 9 := ⟨⟨_, Tryz.underlying9, rfl⟩, by kernel_rfl⟩
instance oneT10 : OneT Tryz.prog 10 := ⟨⟨_, Tryz.underlying10, rfl⟩, by kernel_rfl⟩
instance oneT11 : OneT Tryz.prog 11 := ⟨⟨_, Tryz.underlying11, rfl⟩, by kernel_rfl⟩
instance oneT12 : OneT Tryz.prog 12 := ⟨⟨_, Tryz.underlying12, rfl⟩, by kernel_rfl⟩
instance intT12 : IntT Tryz.prog 12 .u64 := ⟨Tryz.underlying12⟩
instance rowT13 : RowT Tryz.prog 13 2 := ⟨⟨_, Tryz.underlying13, rfl⟩, by kernel_rfl⟩
instance fld13_0 : FieldT Tryz.prog 13 0 0 := ⟨⟨_, _, 0, Tryz.underlying13, rfl, rfl, by kernel_rfl⟩⟩
instance fld13_1 : FieldT Tryz.prog 13 1 1 := ⟨⟨_, _, 0, Tryz.underlying13, rfl, rfl, by kernel_rfl⟩⟩
instance rowT14 : RowT Tryz.prog 14 2 := ⟨⟨_, Tryz.underlying14, rfl⟩, by kernel_rfl⟩
instance fld14_0 : FieldT Tryz.prog 14 0 0 := ⟨⟨_, _, 0, Tryz.underlying14, rfl, rfl, by kernel_rfl⟩⟩
instance fld14_1 : FieldT Tryz.prog 14 1 1 := ⟨⟨_, _, 0, Tryz.underlying14, rfl, rfl, by kernel_rfl⟩⟩
instance oneT15 : OneT Tryz.prog 15 := ⟨⟨_, Tryz.underlying15, rfl⟩, by kernel_rfl⟩
instance oneT16 : OneT Tryz.prog 16 := ⟨⟨_, Tryz.underlying16, rfl⟩, by kernel_rfl⟩
instance oneT17 : OneT Tryz.prog 17 := ⟨⟨_, Tryz.underlying17, rfl⟩, by kernel_rfl⟩
instance rowT18 : RowT Tryz.prog 18 1 := ⟨⟨_, Tryz.underlying18, rfl⟩, by kernel_rfl⟩
instance fld18_0 : FieldT Tryz.prog 18 0 0 := ⟨⟨_, _, 0, Tryz.underlying18, rfl, rfl, by kernel_rfl⟩⟩
instance rowT19 : RowT Tryz.prog 19 1 := ⟨⟨_, Tryz.underlying19, rfl⟩, by kernel_rfl⟩
instance fld19_0 : FieldT Tryz.prog 19 0 0 := ⟨⟨_, _, 0, Tryz.underlying19, rfl, rfl, by kernel_rfl⟩⟩
instance oneT21 : OneT Tryz.prog 21 := ⟨⟨_, Tryz.underlying21, rfl⟩, by kernel_rfl⟩
instance intT21 : IntT Tryz.prog 21 .i32 := ⟨Tryz.underlying21⟩
instance oneT22 : OneT Tryz.prog 22 := ⟨⟨_, Tryz.underlying22, rfl⟩, by kernel_rfl⟩
instance sliceT22 : SliceT Tryz.prog 22 32 19 := ⟨Tryz.underlying22, by kernel_rfl⟩
instance oneT23 : OneT Tryz.prog 23 := ⟨⟨_, Tryz.underlying23, rfl⟩, by kernel_rfl⟩
instance sliceT23 : SliceT Tryz.prog 23 5 1 := ⟨Tryz.underlying23, by kernel_rfl⟩
instance oneT24 : OneT Tryz.prog 24 := ⟨⟨_, Tryz.underlying24, rfl⟩, by kernel_rfl⟩
instance oneT25 : OneT Tryz.prog 25 := ⟨⟨_, Tryz.underlying25, rfl⟩, by kernel_rfl⟩
instance rowT26 : RowT Tryz.prog 26 16 := ⟨⟨_, Tryz.underlying26, rfl⟩, by kernel_rfl⟩
instance arrT26 : ArrT Tryz.prog 26 16 1 := ⟨⟨_, Tryz.underlying26, by kernel_rfl⟩⟩
instance rowT27 : RowT Tryz.prog 27 16 := ⟨⟨_, Tryz.underlying27, rfl⟩, by kernel_rfl⟩
instance arrT27 : ArrT Tryz.prog 27 16 1 := ⟨⟨_, Tryz.underlying27, by kernel_rfl⟩⟩
instance rowT28 : RowT Tryz.prog 28 18 := ⟨⟨_, Tryz.underlying28, rfl⟩, by kernel_rfl⟩
instance fld28_0 : FieldT Tryz.prog 28 0 0 := ⟨⟨_, _, 0, Tryz.underlying28, rfl, rfl, by kernel_rfl⟩⟩
instance fld28_1 : FieldT Tryz.prog 28 1 1 := ⟨⟨_, _, 0, Tryz.underlying28, rfl, rfl, by kernel_rfl⟩⟩
instance fld28_2 : FieldT Tryz.prog 28 2 2 := ⟨⟨_, _, 15, Tryz.underlying28, rfl, rfl, by kernel_rfl⟩⟩
instance rowT29 : RowT Tryz.prog 29 18 := ⟨⟨_, Tryz.underlying29, rfl⟩, by kernel_rfl⟩
instance fld29_0 : FieldT Tryz.prog 29 0 0 := ⟨⟨_, _, 0, Tryz.underlying29, rfl, rfl, by kernel_rfl⟩⟩
instance fld29_1 : FieldT Tryz.prog 29 1 1 := ⟨⟨_, _, 0, Tryz.underlying29, rfl, rfl, by kernel_rfl⟩⟩
instance fld29_2 : FieldT Tryz.prog 29 2 2 := ⟨⟨_, _, 15, Tryz.underlying29, rfl, rfl, by kernel_rfl⟩⟩
instance oneT30 : OneT Tryz.prog 30 := ⟨⟨_, Tryz.underlying30, rfl⟩, by kernel_rfl⟩
instance intT30 : IntT Tryz.prog 30 .u16 := ⟨Tryz.underlying30⟩
instance rowT31 : RowT Tryz.prog 31 19 := ⟨⟨_, Tryz.underlying31, rfl⟩, by kernel_rfl⟩
instance fld31_0 : FieldT Tryz.prog 31 0 0 := ⟨⟨_, _, 17, Tryz.underlying31, rfl, rfl, by kernel_rfl⟩⟩
instance fld31_1 : FieldT Tryz.prog 31 1 18 := ⟨⟨_, _, 0, Tryz.underlying31, rfl, rfl, by kernel_rfl⟩⟩
instance rowT32 : RowT Tryz.prog 32 19 := ⟨⟨_, Tryz.underlying32, rfl⟩, by kernel_rfl⟩
instance fld32_0 : FieldT Tryz.prog 32 0 0 := ⟨⟨_, _, 17, Tryz.underlying32, rfl, rfl, by kernel_rfl⟩⟩
instance fld32_1 : FieldT Tryz.prog 32 1 18 := ⟨⟨_, _, 0, Tryz.underlying32, rfl, rfl, by kernel_rfl⟩⟩
instance oneT33 : OneT Tryz.prog 33 := ⟨⟨_, Tryz.underlying33, rfl⟩, by kernel_rfl⟩
instance intT33 : IntT Tryz.prog 33 .i64 := ⟨Tryz.underlying33⟩
instance oneT35 : OneT Tryz.prog 35 := ⟨⟨_, Tryz.underlying35, rfl⟩, by kernel_rfl⟩
instance oneT37 : OneT Tryz.prog 37 := ⟨⟨_, Tryz.underlying37, rfl⟩, by kernel_rfl⟩
instance oneT38 : OneT Tryz.prog 38 := ⟨⟨_, Tryz.underlying38, rfl⟩, by kernel_rfl⟩
instance oneT39 : OneT Tryz.prog 39 := ⟨⟨_, Tryz.underlying39, rfl⟩, by kernel_rfl⟩
instance oneT40 : OneT Tryz.prog 40 := ⟨⟨_, Tryz.underlying40, rfl⟩, by kernel_rfl⟩
instance oneT42 : OneT Tryz.prog 42 := ⟨⟨_, Tryz.underlying42, rfl⟩, by kernel_rfl⟩
instance rowT43 : RowT Tryz.prog 43 20 := ⟨⟨_, Tryz.underlying43, rfl⟩, by kernel_rfl⟩
instance fld43_0 : FieldT Tryz.prog 43 0 0 := ⟨⟨_, _, 18, Tryz.underlying43, rfl, rfl, by kernel_rfl⟩⟩
instance fld43_1 : FieldT Tryz.prog 43 1 19 := ⟨⟨_, _, 0, Tryz.underlying43, rfl, rfl, by kernel_rfl⟩⟩
instance rowT44 : RowT Tryz.prog 44 20 := ⟨⟨_, Tryz.underlying44, rfl⟩, by kernel_rfl⟩
instance fld44_0 : FieldT Tryz.prog 44 0 0 := ⟨⟨_, _, 18, Tryz.underlying44, rfl, rfl, by kernel_rfl⟩⟩
instance fld44_1 : FieldT Tryz.prog 44 1 19 := ⟨⟨_, _, 0, Tryz.underlying44, rfl, rfl, by kernel_rfl⟩⟩
instance oneT45 : OneT Tryz.prog 45 := ⟨⟨_, Tryz.underlying45, rfl⟩, by kernel_rfl⟩
instance sliceT45 : SliceT Tryz.prog 45 44 20 := ⟨Tryz.underlying45, by kernel_rfl⟩
instance oneT46 : OneT Tryz.prog 46 := ⟨⟨_, Tryz.underlying46, rfl⟩, by kernel_rfl⟩
instance oneT48 : OneT Tryz.prog 48 := ⟨⟨_, Tryz.underlying48, rfl⟩, by kernel_rfl⟩
instance oneT49 : OneT Tryz.prog 49 := ⟨⟨_, Tryz.underlying49, rfl⟩, by kernel_rfl⟩
instance oneT50 : OneT Tryz.prog 50 := ⟨⟨_, Tryz.underlying50, rfl⟩, by kernel_rfl⟩
instance oneT51 : OneT Tryz.prog 51 := ⟨⟨_, Tryz.underlying51, rfl⟩, by kernel_rfl⟩
instance oneT52 : OneT Tryz.prog 52 := ⟨⟨_, Tryz.underlying52, rfl⟩, by kernel_rfl⟩
instance oneT53 : OneT Tryz.prog 53 := ⟨⟨_, Tryz.underlying53, rfl⟩, by kernel_rfl⟩
instance oneT55 : OneT Tryz.prog 55 := ⟨⟨_, Tryz.underlying55, rfl⟩, by kernel_rfl⟩
instance oneT57 : OneT Tryz.prog 57 := ⟨⟨_, Tryz.underlying57, rfl⟩, by kernel_rfl⟩
instance oneT59 : OneT Tryz.prog 59 := ⟨⟨_, Tryz.underlying59, rfl⟩, by kernel_rfl⟩
instance oneT60 : OneT Tryz.prog 60 := ⟨⟨_, Tryz.underlying60, rfl⟩, by kernel_rfl⟩
instance oneT61 : OneT Tryz.prog 61 := ⟨⟨_, Tryz.underlying61, rfl⟩, by kernel_rfl⟩
instance oneT62 : OneT Tryz.prog 62 := ⟨⟨_, Tryz.underlying62, rfl⟩, by kernel_rfl⟩
instance oneT63 : OneT Tryz.prog 63 := ⟨⟨_, Tryz.underlying63, rfl⟩, by kernel_rfl⟩
instance oneT64 : OneT Tryz.prog 64 := ⟨⟨_, Tryz.underlying64, rfl⟩, by kernel_rfl⟩
instance oneT65 : OneT Tryz.prog 65 := ⟨⟨_, Tryz.underlying65, rfl⟩, by kernel_rfl⟩
instance oneT66 : OneT Tryz.prog 66 := ⟨⟨_, Tryz.underlying66, rfl⟩, by kernel_rfl⟩
instance oneT67 : OneT Tryz.prog 67 := ⟨⟨_, Tryz.underlying67, rfl⟩, by kernel_rfl⟩
instance oneT68 : OneT Tryz.prog 68 := ⟨⟨_, Tryz.underlying68, rfl⟩, by kernel_rfl⟩
instance oneT69 : OneT Tryz.prog 69 := ⟨⟨_, Tryz.underlying69, rfl⟩, by kernel_rfl⟩
instance oneT70 : OneT Tryz.prog 70 := ⟨⟨_, Tryz.underlying70, rfl⟩, by kernel_rfl⟩
instance sliceT70 : SliceT Tryz.prog 70 9 1 := ⟨Tryz.underlying70, by kernel_rfl⟩
instance oneT71 : OneT Tryz.prog 71 := ⟨⟨_, Tryz.underlying71, rfl⟩, by kernel_rfl⟩
instance oneT73 : OneT Tryz.prog 73 := ⟨⟨_, Tryz.underlying73, rfl⟩, by kernel_rfl⟩
instance oneT74 : OneT Tryz.prog 74 := ⟨⟨_, Tryz.underlying74, rfl⟩, by kernel_rfl⟩
instance oneT76 : OneT Tryz.prog 76 := ⟨⟨_, Tryz.underlying76, rfl⟩, by kernel_rfl⟩
instance intT76 : IntT Tryz.prog 76 .u64 := ⟨Tryz.underlying76⟩
instance rowT77 : RowT Tryz.prog 77 3 := ⟨⟨_, Tryz.underlying77, rfl⟩, by kernel_rfl⟩
instance fld77_0 : FieldT Tryz.prog 77 0 0 := ⟨⟨_, _, 0, Tryz.underlying77, rfl, rfl, by kernel_rfl⟩⟩
instance fld77_1 : FieldT Tryz.prog 77 1 1 := ⟨⟨_, _, 0, Tryz.underlying77, rfl, rfl, by kernel_rfl⟩⟩
instance fld77_2 : FieldT Tryz.prog 77 2 2 := ⟨⟨_, _, 0, Tryz.underlying77, rfl, rfl, by kernel_rfl⟩⟩
instance rowT78 : RowT Tryz.prog 78 3 := ⟨⟨_, Tryz.underlying78, rfl⟩, by kernel_rfl⟩
instance fld78_0 : FieldT Tryz.prog 78 0 0 := ⟨⟨_, _, 0, Tryz.underlying78, rfl, rfl, by kernel_rfl⟩⟩
instance fld78_1 : FieldT Tryz.prog 78 1 1 := ⟨⟨_, _, 0, Tryz.underlying78, rfl, rfl, by kernel_rfl⟩⟩
instance fld78_2 : FieldT Tryz.prog 78 2 2 := ⟨⟨_, _, 0, Tryz.underlying78, rfl, rfl, by kernel_rfl⟩⟩
instance oneT79 : OneT Tryz.prog 79 := ⟨⟨_, Tryz.underlying79, rfl⟩, by kernel_rfl⟩
instance oneT80 : OneT Tryz.prog 80 := ⟨⟨_, Tryz.underlying80, rfl⟩, by kernel_rfl⟩
instance oneT81 : OneT Tryz.prog 81 := ⟨⟨_, Tryz.underlying81, rfl⟩, by kernel_rfl⟩
instance oneT82 : OneT Tryz.prog 82 := ⟨⟨_, Tryz.underlying82, rfl⟩, by kernel_rfl⟩
instance rowT83 : RowT Tryz.prog 83 2 := ⟨⟨_, Tryz.underlying83, rfl⟩, by kernel_rfl⟩
instance fld83_0 : FieldT Tryz.prog 83 0 0 := ⟨⟨_, _, 0, Tryz.underlying83, rfl, rfl, by kernel_rfl⟩⟩
instance fld83_1 : FieldT Tryz.prog 83 1 1 := ⟨⟨_, _, 0, Tryz.underlying83, rfl, rfl, by kernel_rfl⟩⟩
instance rowT84 : RowT Tryz.prog 84 2 := ⟨⟨_, Tryz.underlying84, rfl⟩, by kernel_rfl⟩
instance fld84_0 : FieldT Tryz.prog 84 0 0 := ⟨⟨_, _, 0, Tryz.underlying84, rfl, rfl, by kernel_rfl⟩⟩
instance fld84_1 : FieldT Tryz.prog 84 1 1 := ⟨⟨_, _, 0, Tryz.underlying84, rfl, rfl, by kernel_rfl⟩⟩
instance oneT85 : OneT Tryz.prog 85 := ⟨⟨_, Tryz.underlying85, rfl⟩, by kernel_rfl⟩
instance oneT86 : OneT Tryz.prog 86 := ⟨⟨_, Tryz.underlying86, rfl⟩, by kernel_rfl⟩
instance oneT87 : OneT Tryz.prog 87 := ⟨⟨_, Tryz.underlying87, rfl⟩, by kernel_rfl⟩
instance oneT88 : OneT Tryz.prog 88 := ⟨⟨_, Tryz.underlying88, rfl⟩, by kernel_rfl⟩
instance oneT89 : OneT Tryz.prog 89 := ⟨⟨_, Tryz.underlying89, rfl⟩, by kernel_rfl⟩
instance oneT90 : OneT Tryz.prog 90 := ⟨⟨_, Tryz.underlying90, rfl⟩, by kernel_rfl⟩
instance oneT91 : OneT Tryz.prog 91 := ⟨⟨_, Tryz.underlying91, rfl⟩, by kernel_rfl⟩
instance intT91 : IntT Tryz.prog 91 .u64 := ⟨Tryz.underlying91⟩
instance oneT92 : OneT Tryz.prog 92 := ⟨⟨_, Tryz.underlying92, rfl⟩, by kernel_rfl⟩
instance rowT93 : RowT Tryz.prog 93 2 := ⟨⟨_, Tryz.underlying93, rfl⟩, by kernel_rfl⟩
instance fld93_0 : FieldT Tryz.prog 93 0 0 := ⟨⟨_, _, 0, Tryz.underlying93, rfl, rfl, by kernel_rfl⟩⟩
instance fld93_1 : FieldT Tryz.prog 93 1 1 := ⟨⟨_, _, 0, Tryz.underlying93, rfl, rfl, by kernel_rfl⟩⟩
instance rowT94 : RowT Tryz.prog 94 2 := ⟨⟨_, Tryz.underlying94, rfl⟩, by kernel_rfl⟩
instance fld94_0 : FieldT Tryz.prog 94 0 0 := ⟨⟨_, _, 0, Tryz.underlying94, rfl, rfl, by kernel_rfl⟩⟩
instance fld94_1 : FieldT Tryz.prog 94 1 1 := ⟨⟨_, _, 0, Tryz.underlying94, rfl, rfl, by kernel_rfl⟩⟩
instance oneT95 : OneT Tryz.prog 95 := ⟨⟨_, Tryz.underlying95, rfl⟩, by kernel_rfl⟩
instance oneT99 : OneT Tryz.prog 99 := ⟨⟨_, Tryz.underlying99, rfl⟩, by kernel_rfl⟩
instance oneT100 : OneT Tryz.prog 100 := ⟨⟨_, Tryz.underlying100, rfl⟩, by kernel_rfl⟩
instance oneT101 : OneT Tryz.prog 101 := ⟨⟨_, Tryz.underlying101, rfl⟩, by kernel_rfl⟩
instance oneT102 : OneT Tryz.prog 102 := ⟨⟨_, Tryz.underlying102, rfl⟩, by kernel_rfl⟩
instance oneT104 : OneT Tryz.prog 104 := ⟨⟨_, Tryz.underlying104, rfl⟩, by kernel_rfl⟩
instance rowT105 : RowT Tryz.prog 105 1 := ⟨⟨_, Tryz.underlying105, rfl⟩, by kernel_rfl⟩
instance fld105_0 : FieldT Tryz.prog 105 0 0 := ⟨⟨_, _, 0, Tryz.underlying105, rfl, rfl, by kernel_rfl⟩⟩
instance rowT106 : RowT Tryz.prog 106 1 := ⟨⟨_, Tryz.underlying106, rfl⟩, by kernel_rfl⟩
instance fld106_0 : FieldT Tryz.prog 106 0 0 := ⟨⟨_, _, 0, Tryz.underlying106, rfl, rfl, by kernel_rfl⟩⟩
instance oneT107 : OneT Tryz.prog 107 := ⟨⟨_, Tryz.underlying107, rfl⟩, by kernel_rfl⟩
instance oneT108 : OneT Tryz.prog 108 := ⟨⟨_, Tryz.underlying108, rfl⟩, by kernel_rfl⟩
instance oneT109 : OneT Tryz.prog 109 := ⟨⟨_, Tryz.underlying109, rfl⟩, by kernel_rfl⟩
instance oneT110 : OneT Tryz.prog 110 := ⟨⟨_, Tryz.underlying110, rfl⟩, by kernel_rfl⟩
instance oneT111 : OneT Tryz.prog 111 := ⟨⟨_, Tryz.underlying111, rfl⟩, by kernel_rfl⟩
instance oneT112 : OneT Tryz.prog 112 := ⟨⟨_, Tryz.underlying112, rfl⟩, by kernel_rfl⟩
instance oneT113 : OneT Tryz.prog 113 := ⟨⟨_, Tryz.underlying113, rfl⟩, by kernel_rfl⟩
instance rowT114 : RowT Tryz.prog 114 24 := ⟨⟨_, Tryz.underlying114, rfl⟩, by kernel_rfl⟩
instance arrT114 : ArrT Tryz.prog 114 24 1 := ⟨⟨_, Tryz.underlying114, by kernel_rfl⟩⟩
instance oneT115 : OneT Tryz.prog 115 := ⟨⟨_, Tryz.underlying115, rfl⟩, by kernel_rfl⟩
instance intT115 : IntT Tryz.prog 115 .u64 := ⟨Tryz.underlying115⟩
instance oneT116 : OneT Tryz.prog 116 := ⟨⟨_, Tryz.underlying116, rfl⟩, by kernel_rfl⟩
instance oneT117 : OneT Tryz.prog 117 := ⟨⟨_, Tryz.underlying117, rfl⟩, by kernel_rfl⟩
instance oneT119 : OneT Tryz.prog 119 := ⟨⟨_, Tryz.underlying119, rfl⟩, by kernel_rfl⟩
instance oneT120 : OneT Tryz.prog 120 := ⟨⟨_, Tryz.underlying120, rfl⟩, by kernel_rfl⟩
instance oneT121 : OneT Tryz.prog 121 := ⟨⟨_, Tryz.underlying121, rfl⟩, by kernel_rfl⟩
instance oneT122 : OneT Tryz.prog 122 := ⟨⟨_, Tryz.underlying122, rfl⟩, by kernel_rfl⟩
instance oneT123 : OneT Tryz.prog 123 := ⟨⟨_, Tryz.underlying123, rfl⟩, by kernel_rfl⟩
instance oneT124 : OneT Tryz.prog 124 := ⟨⟨_, Tryz.underlying124, rfl⟩, by kernel_rfl⟩
instance oneT125 : OneT Tryz.prog 125 := ⟨⟨_, Tryz.underlying125, rfl⟩, by kernel_rfl⟩
instance oneT126 : OneT Tryz.prog 126 := ⟨⟨_, Tryz.underlying126, rfl⟩, by kernel_rfl⟩
instance rowT127 : RowT Tryz.prog 127 20 := ⟨⟨_, Tryz.underlying127, rfl⟩, by kernel_rfl⟩
instance arrT127 : ArrT Tryz.prog 127 20 1 := ⟨⟨_, Tryz.underlying127, by kernel_rfl⟩⟩
instance oneT128 : OneT Tryz.prog 128 := ⟨⟨_, Tryz.underlying128, rfl⟩, by kernel_rfl⟩
instance intT128 : IntT Tryz.prog 128 .u32 := ⟨Tryz.underlying128⟩
instance rowT129 : RowT Tryz.prog 129 65 := ⟨⟨_, Tryz.underlying129, rfl⟩, by kernel_rfl⟩
instance arrT129 : ArrT Tryz.prog 129 65 1 := ⟨⟨_, Tryz.underlying129, by kernel_rfl⟩⟩
instance oneT130 : OneT Tryz.prog 130 := ⟨⟨_, Tryz.underlying130, rfl⟩, by kernel_rfl⟩
instance oneT132 : OneT Tryz.prog 132 := ⟨⟨_, Tryz.underlying132, rfl⟩, by kernel_rfl⟩
instance oneT133 : OneT Tryz.prog 133 := ⟨⟨_, Tryz.underlying133, rfl⟩, by kernel_rfl⟩
instance oneT134 : OneT Tryz.prog 134 := ⟨⟨_, Tryz.underlying134, rfl⟩, by kernel_rfl⟩
instance oneT135 : OneT Tryz.prog 135 := ⟨⟨_, Tryz.underlying135, rfl⟩, by kernel_rfl⟩
instance oneT136 : OneT Tryz.prog 136 := ⟨⟨_, Tryz.underlying136, rfl⟩, by kernel_rfl⟩
instance rowT137 : RowT Tryz.prog 137 32 := ⟨⟨_, Tryz.underlying137, rfl⟩, by kernel_rfl⟩
instance arrT137 : ArrT Tryz.prog 137 32 1 := ⟨⟨_, Tryz.underlying137, by kernel_rfl⟩⟩
instance rowT138 : RowT Tryz.prog 138 64 := ⟨⟨_, Tryz.underlying138, rfl⟩, by kernel_rfl⟩
instance arrT138 : ArrT Tryz.prog 138 64 1 := ⟨⟨_, Tryz.underlying138, by kernel_rfl⟩⟩
instance oneT139 : OneT Tryz.prog 139 := ⟨⟨_, Tryz.underlying139, rfl⟩, by kernel_rfl⟩
instance oneT141 : OneT Tryz.prog 141 := ⟨⟨_, Tryz.underlying141, rfl⟩, by kernel_rfl⟩
instance rowT142 : RowT Tryz.prog 142 256 := ⟨⟨_, Tryz.underlying142, rfl⟩, by kernel_rfl⟩
instance arrT142 : ArrT Tryz.prog 142 256 1 := ⟨⟨_, Tryz.underlying142, by kernel_rfl⟩⟩
instance rowT143 : RowT Tryz.prog 143 2 := ⟨⟨_, Tryz.underlying143, rfl⟩, by kernel_rfl⟩
instance fld143_0 : FieldT Tryz.prog 143 0 0 := ⟨⟨_, _, 0, Tryz.underlying143, rfl, rfl, by kernel_rfl⟩⟩
instance fld143_1 : FieldT Tryz.prog 143 1 1 := ⟨⟨_, _, 0, Tryz.underlying143, rfl, rfl, by kernel_rfl⟩⟩
instance rowT144 : RowT Tryz.prog 144 2 := ⟨⟨_, Tryz.underlying144, rfl⟩, by kernel_rfl⟩
instance fld144_0 : FieldT Tryz.prog 144 0 0 := ⟨⟨_, _, 0, Tryz.underlying144, rfl, rfl, by kernel_rfl⟩⟩
instance fld144_1 : FieldT Tryz.prog 144 1 1 := ⟨⟨_, _, 0, Tryz.underlying144, rfl, rfl, by kernel_rfl⟩⟩
instance rowT145 : RowT Tryz.prog 145 32 := ⟨⟨_, Tryz.underlying145, rfl⟩, by kernel_rfl⟩
instance arrT145 : ArrT Tryz.prog 145 16 2 := ⟨⟨_, Tryz.underlying145, by kernel_rfl⟩⟩
instance rowT146 : RowT Tryz.prog 146 4 := ⟨⟨_, Tryz.underlying146, rfl⟩, by kernel_rfl⟩
instance fld146_0 : FieldT Tryz.prog 146 0 0 := ⟨⟨_, _, 0, Tryz.underlying146, rfl, rfl, by kernel_rfl⟩⟩
instance fld146_1 : FieldT Tryz.prog 146 1 1 := ⟨⟨_, _, 0, Tryz.underlying146, rfl, rfl, by kernel_rfl⟩⟩
instance fld146_2 : FieldT Tryz.prog 146 2 2 := ⟨⟨_, _, 0, Tryz.underlying146, rfl, rfl, by kernel_rfl⟩⟩
instance fld146_3 : FieldT Tryz.prog 146 3 3 := ⟨⟨_, _, 0, Tryz.underlying146, rfl, rfl, by kernel_rfl⟩⟩
instance rowT147 : RowT Tryz.prog 147 4 := ⟨⟨_, Tryz.underlying147, rfl⟩, by kernel_rfl⟩
instance fld147_0 : FieldT Tryz.prog 147 0 0 := ⟨⟨_, _, 0, Tryz.underlying147, rfl, rfl, by kernel_rfl⟩⟩
instance fld147_1 : FieldT Tryz.prog 147 1 1 := ⟨⟨_, _, 0, Tryz.underlying147, rfl, rfl, by kernel_rfl⟩⟩
instance fld147_2 : FieldT Tryz.prog 147 2 2 := ⟨⟨_, _, 0, Tryz.underlying147, rfl, rfl, by kernel_rfl⟩⟩
instance fld147_3 : FieldT Tryz.prog 147 3 3 := ⟨⟨_, _, 0, Tryz.underlying147, rfl, rfl, by kernel_rfl⟩⟩
instance rowT148 : RowT Tryz.prog 148 0 := ⟨⟨_, Tryz.underlying148, rfl⟩, by kernel_rfl⟩
instance arrT148 : ArrT Tryz.prog 148 0 1 := ⟨⟨_, Tryz.underlying148, by kernel_rfl⟩⟩
instance rowT149 : RowT Tryz.prog 149 0 := ⟨⟨_, Tryz.underlying149, rfl⟩, by kernel_rfl⟩
instance rowT150 : RowT Tryz.prog 150 0 := ⟨⟨_, Tryz.underlying150, rfl⟩, by kernel_rfl⟩
instance oneT151 : OneT Tryz.prog 151 := ⟨⟨_, Tryz.underlying151, rfl⟩, by kernel_rfl⟩
instance intT151 : IntT Tryz.prog 151 .u8 := ⟨Tryz.underlying151⟩
instance oneT152 : OneT Tryz.prog 152 := ⟨⟨_, Tryz.underlying152, rfl⟩, by kernel_rfl⟩
instance intT152 : IntT Tryz.prog 152 .u8 := ⟨Tryz.underlying152⟩
instance oneT153 : OneT Tryz.prog 153 := ⟨⟨_, Tryz.underlying153, rfl⟩, by kernel_rfl⟩
instance oneT154 : OneT Tryz.prog 154 := ⟨⟨_, Tryz.underlying154, rfl⟩, by kernel_rfl⟩
instance intT154 : IntT Tryz.prog 154 .i32 := ⟨Tryz.underlying154⟩
instance oneT155 : OneT Tryz.prog 155 := ⟨⟨_, Tryz.underlying155, rfl⟩, by kernel_rfl⟩
instance intT155 : IntT Tryz.prog 155 .i32 := ⟨Tryz.underlying155⟩
instance rowT156 : RowT Tryz.prog 156 11 := ⟨⟨_, Tryz.underlying156, rfl⟩, by kernel_rfl⟩
instance fld156_0 : FieldT Tryz.prog 156 0 0 := ⟨⟨_, _, 0, Tryz.underlying156, rfl, rfl, by kernel_rfl⟩⟩
instance fld156_1 : FieldT Tryz.prog 156 1 1 := ⟨⟨_, _, 0, Tryz.underlying156, rfl, rfl, by kernel_rfl⟩⟩
instance fld156_2 : FieldT Tryz.prog 156 2 2 := ⟨⟨_, _, 0, Tryz.underlying156, rfl, rfl, by kernel_rfl⟩⟩
instance fld156_3 : FieldT Tryz.prog 156 3 3 := ⟨⟨_, _, 0, Tryz.underlying156, rfl, rfl, by kernel_rfl⟩⟩
instance fld156_4 : FieldT Tryz.prog 156 4 4 := ⟨⟨_, _, 0, Tryz.underlying156, rfl, rfl, by kernel_rfl⟩⟩
instance fld156_5 : FieldT Tryz.prog 156 5 5 := ⟨⟨_, _, 0, Tryz.underlying156, rfl, rfl, by kernel_rfl⟩⟩
instance fld156_6 : FieldT Tryz.prog 156 6 6 := ⟨⟨_, _, 0, Tryz.underlying156, rfl, rfl, by kernel_rfl⟩⟩
instance fld156_7 : FieldT Tryz.prog 156 7 7 := ⟨⟨_, _, 0, Tryz.underlying156, rfl, rfl, by kernel_rfl⟩⟩
instance fld156_8 : FieldT Tryz.prog 156 8 8 := ⟨⟨_, _, 0, Tryz.underlying156, rfl, rfl, by kernel_rfl⟩⟩
instance fld156_9 : FieldT Tryz.prog 156 9 9 := ⟨⟨_, _, 0, Tryz.underlying156, rfl, rfl, by kernel_rfl⟩⟩
instance fld156_10 : FieldT Tryz.prog 156 10 10 := ⟨⟨_, _, 0, Tryz.underlying156, rfl, rfl, by kernel_rfl⟩⟩
instance rowT157 : RowT Tryz.prog 157 11 := ⟨⟨_, Tryz.underlying157, rfl⟩, by kernel_rfl⟩
instance fld157_0 : FieldT Tryz.prog 157 0 0 := ⟨⟨_, _, 0, Tryz.underlying157, rfl, rfl, by kernel_rfl⟩⟩
instance fld157_1 : FieldT Tryz.prog 157 1 1 := ⟨⟨_, _, 0, Tryz.underlying157, rfl, rfl, by kernel_rfl⟩⟩
instance fld157_2 : FieldT Tryz.prog 157 2 2 := ⟨⟨_, _, 0, Tryz.underlying157, rfl, rfl, by kernel_rfl⟩⟩
instance fld157_3 : FieldT Tryz.prog 157 3 3 := ⟨⟨_, _, 0, Tryz.underlying157, rfl, rfl, by kernel_rfl⟩⟩
instance fld157_4 : FieldT Tryz.prog 157 4 4 := ⟨⟨_, _, 0, Tryz.underlying157, rfl, rfl, by kernel_rfl⟩⟩
instance fld157_5 : FieldT Tryz.prog 157 5 5 := ⟨⟨_, _, 0, Tryz.underlying157, rfl, rfl, by kernel_rfl⟩⟩
instance fld157_6 : FieldT Tryz.prog 157 6 6 := ⟨⟨_, _, 0, Tryz.underlying157, rfl, rfl, by kernel_rfl⟩⟩
instance fld157_7 : FieldT Tryz.prog 157 7 7 := ⟨⟨_, _, 0, Tryz.underlying157, rfl, rfl, by kernel_rfl⟩⟩
instance fld157_8 : FieldT Tryz.prog 157 8 8 := ⟨⟨_, _, 0, Tryz.underlying157, rfl, rfl, by kernel_rfl⟩⟩
instance fld157_9 : FieldT Tryz.prog 157 9 9 := ⟨⟨_, _, 0, Tryz.underlying157, rfl, rfl, by kernel_rfl⟩⟩
instance fld157_10 : FieldT Tryz.prog 157 10 10 := ⟨⟨_, _, 0, Tryz.underlying157, rfl, rfl, by kernel_rfl⟩⟩
instance rowT158 : RowT Tryz.prog 158 2 := ⟨⟨_, Tryz.underlying158, rfl⟩, by kernel_rfl⟩
instance fld158_0 : FieldT Tryz.prog 158 0 0 := ⟨⟨_, _, 0, Tryz.underlying158, rfl, rfl, by kernel_rfl⟩⟩
instance fld158_1 : FieldT Tryz.prog 158 1 1 := ⟨⟨_, _, 0, Tryz.underlying158, rfl, rfl, by kernel_rfl⟩⟩
instance rowT159 : RowT Tryz.prog 159 2 := ⟨⟨_, Tryz.underlying159, rfl⟩, by kernel_rfl⟩
instance fld159_0 : FieldT Tryz.prog 159 0 0 := ⟨⟨_, _, 0, Tryz.underlying159, rfl, rfl, by kernel_rfl⟩⟩
instance fld159_1 : FieldT Tryz.prog 159 1 1 := ⟨⟨_, _, 0, Tryz.underlying159, rfl, rfl, by kernel_rfl⟩⟩
instance fn3 : IsFn Tryz.prog 3 := ⟨⟨Tryz.f3, Tryz.func3, by kernel_rfl, by kernel_rfl⟩⟩
instance fn4 : IsFn Tryz.prog 4 := ⟨⟨Tryz.f4, Tryz.func4, by kernel_rfl, by kernel_rfl⟩⟩
instance fn5 : IsFn Tryz.prog 5 := ⟨⟨Tryz.f5, Tryz.func5, by kernel_rfl, by kernel_rfl⟩⟩
instance fn6 : IsFn Tryz.prog 6 := ⟨⟨Tryz.f6, Tryz.func6, by kernel_rfl, by kernel_rfl⟩⟩
instance fn7 : IsFn Tryz.prog 7 := ⟨⟨Tryz.f7, Tryz.func7, by kernel_rfl, by kernel_rfl⟩⟩
instance fn8 : IsFn Tryz.prog 8 := ⟨⟨Tryz.f8, Tryz.func8, by kernel_rfl, by kernel_rfl⟩⟩
instance fn9 : IsFn Tryz.prog 9 := ⟨⟨Tryz.f9, Tryz.func9, by kernel_rfl, by kernel_rfl⟩⟩
instance fn10 : IsFn Tryz.prog 10 := ⟨⟨Tryz.f10, Tryz.func10, by kernel_rfl, by kernel_rfl⟩⟩
instance fn11 : IsFn Tryz.prog 11 := ⟨⟨Tryz.f11, Tryz.func11, by kernel_rfl, by kernel_rfl⟩⟩
instance fn12 : IsFn Tryz.prog 12 := ⟨⟨Tryz.f12, Tryz.func12, by kernel_rfl, by kernel_rfl⟩⟩
instance fn13 : IsFn Tryz.prog 13 := ⟨⟨Tryz.f13, Tryz.func13, by kernel_rfl, by kernel_rfl⟩⟩
instance fn14 : IsFn Tryz.prog 14 := ⟨⟨Tryz.f14, Tryz.func14, by kernel_rfl, by kernel_rfl⟩⟩
instance fn15 : IsFn Tryz.prog 15 := ⟨⟨Tryz.f15, Tryz.func15, by kernel_rfl, by kernel_rfl⟩⟩
instance fn16 : IsFn Tryz.prog 16 := ⟨⟨Tryz.f16, Tryz.func16, by kernel_rfl, by kernel_rfl⟩⟩
instance fn17 : IsFn Tryz.prog 17 := ⟨⟨Tryz.f17, Tryz.func17, by kernel_rfl, by kernel_rfl⟩⟩
instance fn18 : IsFn Tryz.prog 18 := ⟨⟨Tryz.f18, Tryz.func18, by kernel_rfl, by kernel_rfl⟩⟩
instance fn19 : IsFn Tryz.prog 19 := ⟨⟨Tryz.f19, Tryz.func19, by kernel_rfl, by kernel_rfl⟩⟩
instance fn20 : IsFn Tryz.prog 20 := ⟨⟨Tryz.f20, Tryz.func20, by kernel_rfl, by kernel_rfl⟩⟩
instance fn21 : IsFn Tryz.prog 21 := ⟨⟨Tryz.f21, Tryz.func21, by kernel_rfl, by kernel_rfl⟩⟩
instance fn22 : IsFn Tryz.prog 22 := ⟨⟨Tryz.f22, Tryz.func22, by kernel_rfl, by kernel_rfl⟩⟩
instance fn23 : IsFn Tryz.prog 23 := ⟨⟨Tryz.f23, Tryz.func23, by kernel_rfl, by kernel_rfl⟩⟩
instance fn24 : IsFn Tryz.prog 24 := ⟨⟨Tryz.f24, Tryz.func24, by kernel_rfl, by kernel_rfl⟩⟩
instance fn25 : IsFn Tryz.prog 25 := ⟨⟨Tryz.f25, Tryz.func25, by kernel_rfl, by kernel_rfl⟩⟩
instance fn26 : IsFn Tryz.prog 26 := ⟨⟨Tryz.f26, Tryz.func26, by kernel_rfl, by kernel_rfl⟩⟩
instance fn27 : IsFn Tryz.prog 27 := ⟨⟨Tryz.f27, Tryz.func27, by kernel_rfl, by kernel_rfl⟩⟩
instance fn28 : IsFn Tryz.prog 28 := ⟨⟨Tryz.f28, Tryz.func28, by kernel_rfl, by kernel_rfl⟩⟩
instance fn29 : IsFn Tryz.prog 29 := ⟨⟨Tryz.f29, Tryz.func29, by kernel_rfl, by kernel_rfl⟩⟩
instance fn30 : IsFn Tryz.prog 30 := ⟨⟨Tryz.f30, Tryz.func30, by kernel_rfl, by kernel_rfl⟩⟩
instance fn31 : IsFn Tryz.prog 31 := ⟨⟨Tryz.f31, Tryz.func31, by kernel_rfl, by kernel_rfl⟩⟩
instance fn32 : IsFn Tryz.prog 32 := ⟨⟨Tryz.f32, Tryz.func32, by kernel_rfl, by kernel_rfl⟩⟩
instance fn33 : IsFn Tryz.prog 33 := ⟨⟨Tryz.f33, Tryz.func33, by kernel_rfl, by kernel_rfl⟩⟩
instance fn36 : IsFn Tryz.prog 36 := ⟨⟨Tryz.f36, Tryz.func36, by kernel_rfl, by kernel_rfl⟩⟩
instance fn37 : IsFn Tryz.prog 37 := ⟨⟨Tryz.f37, Tryz.func37, by kernel_rfl, by kernel_rfl⟩⟩
instance fn40 : IsFn Tryz.prog 40 := ⟨⟨Tryz.f40, Tryz.func40, by kernel_rfl, by kernel_rfl⟩⟩
instance fn43 : IsFn Tryz.prog 43 := ⟨⟨Tryz.f43, Tryz.func43, by kernel_rfl, by kernel_rfl⟩⟩
instance fn44 : IsFn Tryz.prog 44 := ⟨⟨Tryz.f44, Tryz.func44, by kernel_rfl, by kernel_rfl⟩⟩
instance fn45 : IsFn Tryz.prog 45 := ⟨⟨Tryz.f45, Tryz.func45, by kernel_rfl, by kernel_rfl⟩⟩
instance fn46 : IsFn Tryz.prog 46 := ⟨⟨Tryz.f46, Tryz.func46, by kernel_rfl, by kernel_rfl⟩⟩
instance fn47 : IsFn Tryz.prog 47 := ⟨⟨Tryz.f47, Tryz.func47, by kernel_rfl, by kernel_rfl⟩⟩
instance fn48 : IsFn Tryz.prog 48 := ⟨⟨Tryz.f48, Tryz.func48, by kernel_rfl, by kernel_rfl⟩⟩
instance fn54 : IsFn Tryz.prog 54 := ⟨⟨Tryz.f54, Tryz.func54, by kernel_rfl, by kernel_rfl⟩⟩
instance fn55 : IsFn Tryz.prog 55 := ⟨⟨Tryz.f55, Tryz.func55, by kernel_rfl, by kernel_rfl⟩⟩
instance fn65 : IsFn Tryz.prog 65 := ⟨⟨Tryz.f65, Tryz.func65, by kernel_rfl, by kernel_rfl⟩⟩
instance fn66 : IsFn Tryz.prog 66 := ⟨⟨Tryz.f66, Tryz.func66, by kernel_rfl, by kernel_rfl⟩⟩
instance fn68 : IsFn Tryz.prog 68 := ⟨⟨Tryz.f68, Tryz.func68, by kernel_rfl, by kernel_rfl⟩⟩
instance fn69 : IsFn Tryz.prog 69 := ⟨⟨Tryz.f69, Tryz.func69, by kernel_rfl, by kernel_rfl⟩⟩
instance fn80 : IsFn Tryz.prog 80 := ⟨⟨Tryz.f80, Tryz.func80, by kernel_rfl, by kernel_rfl⟩⟩
instance fn81 : IsFn Tryz.prog 81 := ⟨⟨Tryz.f81, Tryz.func81, by kernel_rfl, by kernel_rfl⟩⟩
instance fn82 : IsFn Tryz.prog 82 := ⟨⟨Tryz.f82, Tryz.func82, by kernel_rfl, by kernel_rfl⟩⟩
instance fn83 : IsFn Tryz.prog 83 := ⟨⟨Tryz.f83, Tryz.func83, by kernel_rfl, by kernel_rfl⟩⟩
instance fn84 : IsFn Tryz.prog 84 := ⟨⟨Tryz.f84, Tryz.func84, by kernel_rfl, by kernel_rfl⟩⟩
instance fn95 : IsFn Tryz.prog 95 := ⟨⟨Tryz.f95, Tryz.func95, by kernel_rfl, by kernel_rfl⟩⟩
instance fn96 : IsFn Tryz.prog 96 := ⟨⟨Tryz.f96, Tryz.func96, by kernel_rfl, by kernel_rfl⟩⟩
instance fn97 : IsFn Tryz.prog 97 := ⟨⟨Tryz.f97, Tryz.func97, by kernel_rfl, by kernel_rfl⟩⟩

end Go.Proofs.YtldkgicmfbofiaaGreatDoor

/-
  DERIVED: THE SHELF's CONTRACTS AT THIS DUMP, IN PLAIN WORDS (tools/lay-plain.mjs out of 'TryzShelf.lean', which tools/lay-shelf.mjs wrote): THE SAME DECLARATIONS UNDER THE SAME NAMES: 'import', 'namespace', 'open', 'def', 'theorem' AND NOTHING ELSE: no command of the shelf's: FOR A HAND-IN. Each laying: the table of numbers ('.._ren') and one theorem, a field a fact of the dump's own or the kernel's comparison; each contract: ONE APPLICATION.
-/
namespace Go.Proofs
open Go.Shelf
def Tryz.lays169_ren : Go.Shelf.Ren := ⟨fun | 169 => 51 | n => n, fun | 70 => 92 | 9 => 9 | 0 => 0 | 72 => 94 | 37 => 23 | 127 => 113 | 3 => 3 | 5 => 5 | n => n, fun | n => n⟩
theorem Tryz.lays169 : Go.Proofs.Lays.n169 Tryz.prog Tryz.lays169_ren := {
  mixed := by kernel_rfl
  f169 := Tryz.func51.trans (congrArg some (by kernel_rfl))
  t0 := Tryz.underlying0
  a0 := Tryz.isAgg0
  z0 := Tryz.sizeOf0
  v0 := Tryz.zeroValue0
  t3 := Tryz.underlying3
  a3 := Tryz.isAgg3
  z3 := Tryz.sizeOf3
  v3 := Tryz.zeroValue3
  t9 := Tryz.underlying9
  a9 := Tryz.isAgg9
  z9 := Tryz.sizeOf9
  v9 := Tryz.zeroValue9
  t37 := Tryz.underlying23
  a37 := Tryz.isAgg23
  z37 := Tryz.sizeOf23
  v37 := Tryz.zeroValue23
  t70 := Tryz.underlying92
  a70 := Tryz.isAgg92
  z70 := Tryz.sizeOf92
  v70 := Tryz.zeroValue92
  t72 := Tryz.underlying94
  a72 := Tryz.isAgg94
  z72 := Tryz.sizeOf94
  v72 := Tryz.zeroValue94
  t127 := Tryz.underlying113
  a127 := Tryz.isAgg113
  z127 := Tryz.sizeOf113
  v127 := Tryz.zeroValue113 }
theorem Tryz.Builder_Extra_169 : Builder.Extra Tryz.prog Tryz.lays169_ren := {
  sizeBuilder := by kernel_rfl
  liesBuilder := by kernel_rfl
  t5 := Tryz.underlying5
  a5 := Tryz.isAgg5
  z5 := Tryz.sizeOf5
  v5 := Tryz.zeroValue5
  infoByte := by kernel_rfl
  cellsByte := by kernel_rfl
  sizeByte := by kernel_rfl
  neB5 := by decide }
open Go.RowKit in
theorem Tryz.Builder_String (B b : Nat) (l : List UInt8) (w : World) (h : Lib.IsBuilder 94 5 B b (Lib.byteCells l) w) (h0 : l ≠ []) :
    Calls Tryz.prog 51 #[.pointer (some ⟨b, 0, none⟩)] w fun e w' => e = .returned (.string ⟨l.toArray⟩) ∧ Below B w w' := Any.Builder_String Tryz.lays169 Tryz.Builder_Extra_169 B b l w h h0
open Go.RowKit in
theorem Tryz.Builder_String_empty (B b : Nat) (w : World) (h : Lib.IsBuilder 94 5 B b [] w) (hBw : B ≤ w.heap.size) :
    Calls Tryz.prog 51 #[.pointer (some ⟨b, 0, none⟩)] w fun e w' => e = .returned (.string ⟨#[]⟩) ∧ Below B w w' := Any.Builder_String_empty Tryz.lays169 Tryz.Builder_Extra_169 B b w h hBw
open Go.RowKit in
theorem Tryz.Builder_String_any (B b : Nat) (l : List UInt8) (w : World) (h : Lib.IsBuilder 94 5 B b (Lib.byteCells l) w) (hBw : B ≤ w.heap.size) :
    Calls Tryz.prog 51 #[.pointer (some ⟨b, 0, none⟩)] w fun e w' => e = .returned (.string ⟨l.toArray⟩) ∧ Below B w w' := Any.Builder_String_any Tryz.lays169 Tryz.Builder_Extra_169 B b l w h hBw
def Tryz.lays241_ren : Go.Shelf.Ren := ⟨fun | 241 => 71 | 277 => 86 | n => n, fun | 70 => 92 | 3 => 3 | 0 => 0 | 72 => 94 | 37 => 23 | 5 => 5 | n => n, fun | n => n⟩
theorem Tryz.lays241 : Go.Proofs.Lays.n241 Tryz.prog Tryz.lays241_ren := {
  mixed := by kernel_rfl
  f241 := Tryz.func71.trans (congrArg some (by kernel_rfl))
  f277 := Tryz.func86.trans (congrArg some (by kernel_rfl))
  t0 := Tryz.underlying0
  a0 := Tryz.isAgg0
  z0 := Tryz.sizeOf0
  v0 := Tryz.zeroValue0
  t3 := Tryz.underlying3
  a3 := Tryz.isAgg3
  z3 := Tryz.sizeOf3
  v3 := Tryz.zeroValue3
  t37 := Tryz.underlying23
  a37 := Tryz.isAgg23
  z37 := Tryz.sizeOf23
  v37 := Tryz.zeroValue23
  t70 := Tryz.underlying92
  a70 := Tryz.isAgg92
  z70 := Tryz.sizeOf92
  v70 := Tryz.zeroValue92
  t72 := Tryz.underlying94
  a72 := Tryz.isAgg94
  z72 := Tryz.sizeOf94
  v72 := Tryz.zeroValue94 }
theorem Tryz.Builder_Extra_241 : Builder.Extra Tryz.prog Tryz.lays241_ren := {
  sizeBuilder := by kernel_rfl
  liesBuilder := by kernel_rfl
  t5 := Tryz.underlying5
  a5 := Tryz.isAgg5
  z5 := Tryz.sizeOf5
  v5 := Tryz.zeroValue5
  infoByte := by kernel_rfl
  cellsByte := by kernel_rfl
  sizeByte := by kernel_rfl
  neB5 := by decide }
open Go.RowKit in
theorem Tryz.Builder_grow_fresh (B b n : Nat) (w : World) (hB : B ≤ b) (hbk : w.heap[b]? = some (.cells #[.pointer (some ⟨b, 0, none⟩), .slice none 0 0] 94 (0, 0))) (hBw : B ≤ w.heap.size) (hn : n ≤ 281474976710656) :
    Calls Tryz.prog 71 #[.pointer (some ⟨b, 0, none⟩), .int .i64 n] w fun e w' => e = .returned (.tuple #[]) ∧ (Lib.BuilderAt 94 5 B b (.pointer (some ⟨b, 0, none⟩)) [] w' ∧ Below B w w') := Any.Builder_grow_fresh Tryz.lays241 Tryz.Builder_Extra_241 B b n w hB hbk hBw hn
def Tryz.lays165_ren : Go.Shelf.Ren := ⟨fun | 165 => 49 | 240 => 70 | 241 => 71 | 276 => 85 | 277 => 86 | n => n, fun | 70 => 92 | 3 => 3 | 0 => 0 | 4 => 4 | 9 => 9 | 20 => 20 | 72 => 94 | 37 => 23 | 164 => 75 | 5 => 5 | n => n, fun | n => n⟩
theorem Tryz.lays165 : Go.Proofs.Lays.n165 Tryz.prog Tryz.lays165_ren := {
  mixed := by kernel_rfl
  f165 := Tryz.func49.trans (congrArg some (by kernel_rfl))
  f240 := Tryz.func70.trans (congrArg some (by kernel_rfl))
  f241 := Tryz.func71.trans (congrArg some (by kernel_rfl))
  f276 := Tryz.func85.trans (congrArg some (by kernel_rfl))
  f277 := Tryz.func86.trans (congrArg some (by kernel_rfl))
  t0 := Tryz.underlying0
  a0 := Tryz.isAgg0
  z0 := Tryz.sizeOf0
  v0 := Tryz.zeroValue0
  t3 := Tryz.underlying3
  a3 := Tryz.isAgg3
  z3 := Tryz.sizeOf3
  v3 := Tryz.zeroValue3
  t4 := Tryz.underlying4
  a4 := Tryz.isAgg4
  z4 := Tryz.sizeOf4
  v4 := Tryz.zeroValue4
  t9 := Tryz.underlying9
  a9 := Tryz.isAgg9
  z9 := Tryz.sizeOf9
  v9 := Tryz.zeroValue9
  t20 := Tryz.underlying20
  a20 := Tryz.isAgg20
  z20 := Tryz.sizeOf20
  v20 := Tryz.zeroValue20
  t37 := Tryz.underlying23
  a37 := Tryz.isAgg23
  z37 := Tryz.sizeOf23
  v37 := Tryz.zeroValue23
  t70 := Tryz.underlying92
  a70 := Tryz.isAgg92
  z70 := Tryz.sizeOf92
  v70 := Tryz.zeroValue92
  t72 := Tryz.underlying94
  a72 := Tryz.isAgg94
  z72 := Tryz.sizeOf94
  v72 := Tryz.zeroValue94
  t164 := Tryz.underlying75
  a164 := Tryz.isAgg75
  z164 := Tryz.sizeOf75
  v164 := Tryz.zeroValue75 }
theorem Tryz.Builder_Extra_165 : Builder.Extra Tryz.prog Tryz.lays165_ren := {
  sizeBuilder := by kernel_rfl
  liesBuilder := by kernel_rfl
  t5 := Tryz.underlying5
  a5 := Tryz.isAgg5
  z5 := Tryz.sizeOf5
  v5 := Tryz.zeroValue5
  infoByte := by kernel_rfl
  cellsByte := by kernel_rfl
  sizeByte := by kernel_rfl
  neB5 := by decide }
open Go.RowKit in
theorem Tryz.Builder_Grow_fresh (B b n : Nat) (w : World) (hB : B ≤ b) (hbk : w.heap[b]? = some (.cells #[.pointer none, .slice none 0 0] 94 (0, 0))) (hBw : B ≤ w.heap.size) (hn : n ≤ 281474976710656) :
    Calls Tryz.prog 49 #[.pointer (some ⟨b, 0, none⟩), .int .i64 n] w fun e w' => e = .returned (.tuple #[]) ∧ (Lib.BuilderAt 94 5 B b (.pointer (some ⟨b, 0, none⟩)) [] w' ∧ Below B w w') := Any.Builder_Grow_fresh Tryz.lays165 Tryz.Builder_Extra_165 B b n w hB hbk hBw hn
def Tryz.lays156_ren : Go.Shelf.Ren := ⟨fun | 156 => 33 | 165 => 49 | 166 => 50 | 169 => 51 | 240 => 70 | 241 => 71 | 276 => 85 | 277 => 86 | n => n, fun | 31 => 70 | 9 => 9 | 3 => 3 | 4 => 4 | 0 => 0 | 20 => 20 | 72 => 94 | 76 => 98 | 70 => 92 | 37 => 23 | 75 => 97 | 127 => 113 | 164 => 75 | 5 => 5 | 80 => 100 | n => n, fun | n => n⟩
theorem Tryz.lays156 : Go.Proofs.Lays.n156 Tryz.prog Tryz.lays156_ren := {
  mixed := by kernel_rfl
  f156 := Tryz.func33.trans (congrArg some (by kernel_rfl))
  f165 := Tryz.func49.trans (congrArg some (by kernel_rfl))
  f166 := Tryz.func50.trans (congrArg some (by kernel_rfl))
  f169 := Tryz.func51.trans (congrArg some (by kernel_rfl))
  f240 := Tryz.func70.trans (congrArg some (by kernel_rfl))
  f241 := Tryz.func71.trans (congrArg some (by kernel_rfl))
  f276 := Tryz.func85.trans (congrArg some (by kernel_rfl))
  f277 := Tryz.func86.trans (congrArg some (by kernel_rfl))
  t0 := Tryz.underlying0
  a0 := Tryz.isAgg0
  z0 := Tryz.sizeOf0
  v0 := Tryz.zeroValue0
  t3 := Tryz.underlying3
  a3 := Tryz.isAgg3
  z3 := Tryz.sizeOf3
  v3 := Tryz.zeroValue3
  t4 := Tryz.underlying4
  a4 := Tryz.isAgg4
  z4 := Tryz.sizeOf4
  v4 := Tryz.zeroValue4
  t9 := Tryz.underlying9
  a9 := Tryz.isAgg9
  z9 := Tryz.sizeOf9
  v9 := Tryz.zeroValue9
  t20 := Tryz.underlying20
  a20 := Tryz.isAgg20
  z20 := Tryz.sizeOf20
  v20 := Tryz.zeroValue20
  t31 := Tryz.underlying70
  a31 := Tryz.isAgg70
  z31 := Tryz.sizeOf70
  v31 := Tryz.zeroValue70
  t37 := Tryz.underlying23
  a37 := Tryz.isAgg23
  z37 := Tryz.sizeOf23
  v37 := Tryz.zeroValue23
  t70 := Tryz.underlying92
  a70 := Tryz.isAgg92
  z70 := Tryz.sizeOf92
  v70 := Tryz.zeroValue92
  t72 := Tryz.underlying94
  a72 := Tryz.isAgg94
  z72 := Tryz.sizeOf94
  v72 := Tryz.zeroValue94
  t75 := Tryz.underlying97
  a75 := Tryz.isAgg97
  z75 := Tryz.sizeOf97
  v75 := Tryz.zeroValue97
  t76 := Tryz.underlying98
  a76 := Tryz.isAgg98
  z76 := Tryz.sizeOf98
  v76 := Tryz.zeroValue98
  t127 := Tryz.underlying113
  a127 := Tryz.isAgg113
  z127 := Tryz.sizeOf113
  v127 := Tryz.zeroValue113
  t164 := Tryz.underlying75
  a164 := Tryz.isAgg75
  z164 := Tryz.sizeOf75
  v164 := Tryz.zeroValue75 }
theorem Tryz.Builder_Extra_156 : Builder.Extra Tryz.prog Tryz.lays156_ren := {
  sizeBuilder := by kernel_rfl
  liesBuilder := by kernel_rfl
  t5 := Tryz.underlying5
  a5 := Tryz.isAgg5
  z5 := Tryz.sizeOf5
  v5 := Tryz.zeroValue5
  infoByte := by kernel_rfl
  cellsByte := by kernel_rfl
  sizeByte := by kernel_rfl
  neB5 := by decide }
open Go.RowKit in
theorem Tryz.strings_Join_none (a : Option Addr) (c : Nat) (sep : ByteArray) (w : World) :
    Calls Tryz.prog 33 #[.slice a 0 c, .string sep] w fun e w' => e = .returned (.string ⟨#[]⟩) ∧ w' = w := Any.strings_Join_none Tryz.lays156 Tryz.Builder_Extra_156 a c sep w
open Go.RowKit in
theorem Tryz.strings_Join (bk o c : Nat) (xs : List ByteArray) (sep : ByteArray) (w : World) (hcells : ∀ (j : Nat) x, xs[j]? = some x → w.cell? ⟨bk, o + j, none⟩ = some (.string x)) (hbk : bk < w.heap.size) (hN : xs.length ≤ 140737488355328) (hcap : xs.length ≤ c) (hlen : (Lib.join (xs.map (·.data.toList)) sep.data.toList).length ≤ 140737488355328) :
    Calls Tryz.prog 33 #[.slice (some ⟨bk, o, none⟩) xs.length c, .string sep] w fun e w' => e = .returned (.string ⟨(Lib.join (xs.map (·.data.toList)) sep.data.toList).toArray⟩) ∧ Below w.heap.size w w' := Any.strings_Join Tryz.lays156 Tryz.Builder_Extra_156 bk o c xs sep w hcells hbk hN hcap hlen
def Tryz.lays137_ren : Go.Shelf.Ren := ⟨fun | 137 => 81 | 217 => 76 | 266 => 92 | n => n, fun | 9 => 9 | 5 => 5 | 3 => 3 | n => n, fun | n => n⟩
theorem Tryz.lays137 : Go.Proofs.Lays.n137 Tryz.prog Tryz.lays137_ren := {
  mixed := by kernel_rfl
  f137 := Tryz.func81.trans (congrArg some (by kernel_rfl))
  f217 := Tryz.func76.trans (congrArg some (by kernel_rfl))
  f266 := Tryz.func92.trans (congrArg some (by kernel_rfl))
  t3 := Tryz.underlying3
  a3 := Tryz.isAgg3
  z3 := Tryz.sizeOf3
  v3 := Tryz.zeroValue3
  t5 := Tryz.underlying5
  a5 := Tryz.isAgg5
  z5 := Tryz.sizeOf5
  v5 := Tryz.zeroValue5
  t9 := Tryz.underlying9
  a9 := Tryz.isAgg9
  z9 := Tryz.sizeOf9
  v9 := Tryz.zeroValue9 }
open Go.RowKit in
theorem Tryz.strings_IndexByte (s : ByteArray) (c : Int) (w : World) :
    Calls Tryz.prog 81 #[.string s, .int .u8 c] w fun e w' => e = .returned (.int .i64 (Lib.indexByte s.data.toList c.toNat.toUInt8)) ∧ w' = w := Any.strings_IndexByte Tryz.lays137 s c w
def Tryz.lays195_ren : Go.Shelf.Ren := ⟨fun | 195 => 103 | n => n, fun | 9 => 9 | 3 => 3 | 0 => 0 | 4 => 4 | n => n, fun | n => n⟩
theorem Tryz.lays195 : Go.Proofs.Lays.n195 Tryz.prog Tryz.lays195_ren := {
  mixed := by kernel_rfl
  f195 := Tryz.func103.trans (congrArg some (by kernel_rfl))
  t0 := Tryz.underlying0
  a0 := Tryz.isAgg0
  z0 := Tryz.sizeOf0
  v0 := Tryz.zeroValue0
  t3 := Tryz.underlying3
  a3 := Tryz.isAgg3
  z3 := Tryz.sizeOf3
  v3 := Tryz.zeroValue3
  t4 := Tryz.underlying4
  a4 := Tryz.isAgg4
  z4 := Tryz.sizeOf4
  v4 := Tryz.zeroValue4
  t9 := Tryz.underlying9
  a9 := Tryz.isAgg9
  z9 := Tryz.sizeOf9
  v9 := Tryz.zeroValue9 }
open Go.RowKit in
theorem Tryz.utf8_RuneCountInString (s : ByteArray) (w : World) (hs : s.size < 9223372036854775807) :
    Calls Tryz.prog 103 #[.string s] w fun e w' => e = .returned (.int .i64 (Lib.runeCount s)) ∧ ∃ pos, w' = w.iter s pos := Any.utf8_RuneCountInString Tryz.lays195 s w hs
def Tryz.lays129_ren : Go.Shelf.Ren := ⟨fun | 129 => 88 | n => n, fun | 53 => 115 | 3 => 3 | 4 => 4 | 46 => 91 | 5 => 5 | 9 => 9 | n => n, fun | n => n⟩
theorem Tryz.lays129 : Go.Proofs.Lays.n129 Tryz.prog Tryz.lays129_ren := {
  mixed := by kernel_rfl
  f129 := Tryz.func88.trans (congrArg some (by kernel_rfl))
  t3 := Tryz.underlying3
  a3 := Tryz.isAgg3
  z3 := Tryz.sizeOf3
  v3 := Tryz.zeroValue3
  t4 := Tryz.underlying4
  a4 := Tryz.isAgg4
  z4 := Tryz.sizeOf4
  v4 := Tryz.zeroValue4
  t5 := Tryz.underlying5
  a5 := Tryz.isAgg5
  z5 := Tryz.sizeOf5
  v5 := Tryz.zeroValue5
  t9 := Tryz.underlying9
  a9 := Tryz.isAgg9
  z9 := Tryz.sizeOf9
  v9 := Tryz.zeroValue9
  t46 := Tryz.underlying91
  a46 := Tryz.isAgg91
  z46 := Tryz.sizeOf91
  v46 := Tryz.zeroValue91
  t53 := Tryz.underlying115
  a53 := Tryz.isAgg115
  z53 := Tryz.sizeOf115
  v53 := Tryz.zeroValue115 }
theorem Tryz.bits_Len64 (x : Int) (w : World) (h0 : 0 ≤ x) (h1 : x ≤ 18446744073709551615) :
    Calls Tryz.prog 88 #[.int .u64 x] w fun e w' => e = .returned (.int .i64 (Lib.bitLen x.toNat)) ∧ w' = w := Any.bits_Len64 Tryz.lays129 x w h0 h1
def Tryz.lays317_ren : Go.Shelf.Ren := ⟨fun | 317 => 87 | n => n, fun | 3 => 3 | 46 => 91 | n => n, fun | n => n⟩
theorem Tryz.lays317 : Go.Proofs.Lays.n317 Tryz.prog Tryz.lays317_ren := {
  mixed := by kernel_rfl
  f317 := Tryz.func87.trans (congrArg some (by kernel_rfl))
  t3 := Tryz.underlying3
  a3 := Tryz.isAgg3
  z3 := Tryz.sizeOf3
  v3 := Tryz.zeroValue3
  t46 := Tryz.underlying91
  a46 := Tryz.isAgg91
  z46 := Tryz.sizeOf91
  v46 := Tryz.zeroValue91 }
open Go.Lib in
theorem Tryz.internal_strconv_log10Pow2 (x : Nat) (h : x ≤ 64) (w : World) :
    Calls Tryz.prog 87 #[.int .i64 x] w fun e w' => e = .returned (.int .i64 (Lib.l10 x)) ∧ w' = w := Any.internal_strconv_log10Pow2 Tryz.lays317 x h w
def Tryz.lays318_ren : Go.Shelf.Ren := ⟨fun | 318 => 89 | n => n, fun | 3 => 3 | 4 => 4 | n => n, fun | n => n⟩
theorem Tryz.lays318 : Go.Proofs.Lays.n318 Tryz.prog Tryz.lays318_ren := {
  mixed := by kernel_rfl
  f318 := Tryz.func89.trans (congrArg some (by kernel_rfl))
  t3 := Tryz.underlying3
  a3 := Tryz.isAgg3
  z3 := Tryz.sizeOf3
  v3 := Tryz.zeroValue3
  t4 := Tryz.underlying4
  a4 := Tryz.isAgg4
  z4 := Tryz.sizeOf4
  v4 := Tryz.zeroValue4 }
open Go.Lib in
theorem Tryz.internal_strconv_bool2_int (b : Bool) (w : World) :
    Calls Tryz.prog 89 #[.bool b] w fun e w' => e = .returned (.int .i64 (if b then 1 else 0)) ∧ w' = w := Any.internal_strconv_bool2_int Tryz.lays318 b w
def Tryz.lays283_ren : Go.Shelf.Ren := ⟨fun | 283 => 72 | n => n, fun | 3 => 3 | 9 => 9 | 4 => 4 | n => n, fun | n => n⟩
theorem Tryz.lays283 : Go.Proofs.Lays.n283 Tryz.prog Tryz.lays283_ren := {
  mixed := by kernel_rfl
  f283 := Tryz.func72.trans (congrArg some (by kernel_rfl))
  t3 := Tryz.underlying3
  a3 := Tryz.isAgg3
  z3 := Tryz.sizeOf3
  v3 := Tryz.zeroValue3
  t4 := Tryz.underlying4
  a4 := Tryz.isAgg4
  z4 := Tryz.sizeOf4
  v4 := Tryz.zeroValue4
  t9 := Tryz.underlying9
  a9 := Tryz.isAgg9
  z9 := Tryz.sizeOf9
  v9 := Tryz.zeroValue9 }
open Go.Lib in
theorem Tryz.internal_strconv_small (i : Nat) (h : i < 100) (w : World) :
    Calls Tryz.prog 72 #[.int .i64 i] w fun e w' => e = .returned (.string ⟨(Lib.decDigits i).toArray⟩) ∧ w' = w := Any.internal_strconv_small Tryz.lays283 i h w
def Tryz.laysM284_ren : Go.Shelf.Ren := ⟨fun | 284 => 73 | 129 => 88 | 317 => 87 | 318 => 89 | n => n, fun | 53 => 115 | 3 => 3 | 212 => 127 | 0 => 0 | 4 => 4 | 46 => 91 | 5 => 5 | 9 => 9 | n => n, fun | 17 => 1 | n => n⟩
theorem Tryz.laysM284 : Go.Proofs.LaysM.n284 Tryz.prog Tryz.laysM284_ren := {
  mixed := by kernel_rfl
  f129 := Tryz.func88.trans (congrArg some (by kernel_rfl))
  f284 := Tryz.func73.trans (congrArg some (by kernel_rfl))
  f317 := Tryz.func87.trans (congrArg some (by kernel_rfl))
  f318 := Tryz.func89.trans (congrArg some (by kernel_rfl))
  t0 := Tryz.underlying0
  a0 := Tryz.isAgg0
  z0 := Tryz.sizeOf0
  v0 := Tryz.zeroValue0
  t3 := Tryz.underlying3
  a3 := Tryz.isAgg3
  z3 := Tryz.sizeOf3
  v3 := Tryz.zeroValue3
  t4 := Tryz.underlying4
  a4 := Tryz.isAgg4
  z4 := Tryz.sizeOf4
  v4 := Tryz.zeroValue4
  t5 := Tryz.underlying5
  a5 := Tryz.isAgg5
  z5 := Tryz.sizeOf5
  v5 := Tryz.zeroValue5
  t9 := Tryz.underlying9
  a9 := Tryz.isAgg9
  z9 := Tryz.sizeOf9
  v9 := Tryz.zeroValue9
  t46 := Tryz.underlying91
  a46 := Tryz.isAgg91
  z46 := Tryz.sizeOf91
  v46 := Tryz.zeroValue91
  t53 := Tryz.underlying115
  a53 := Tryz.isAgg115
  z53 := Tryz.sizeOf115
  v53 := Tryz.zeroValue115
  t212 := Tryz.underlying127
  a212 := Tryz.isAgg127
  z212 := Tryz.sizeOf127
  v212 := Tryz.zeroValue127
  g17 := by kernel_rfl
  i0 := by kernel_rfl
  i3 := by kernel_rfl
  i4 := by kernel_rfl
  i5 := by kernel_rfl
  i9 := by kernel_rfl
  i46 := by kernel_rfl
  i53 := by kernel_rfl
  i212 := by kernel_rfl
  m17 := by kernel_rfl }
open Go.Lib in
theorem Tryz.internal_strconv_numDigits (u : Nat) (h1 : 1 ≤ u) (h2 : u < 18446744073709551616) (w : World) (htab : Lib.TabIs Tryz.prog w "internal/strconv.uint64pow10" .u64 Lib.pow10Tab) :
    Calls Tryz.prog 73 #[.int .u64 u] w fun e w' => e = .returned (.int .i64 (Lib.nDigits u)) ∧ w' = w := Any.internal_strconv_numDigits Tryz.laysM284 u h1 h2 w htab
def Tryz.lays285_ren : Go.Shelf.Ren := ⟨fun | 285 => 74 | n => n, fun | 37 => 23 | 53 => 115 | 3 => 3 | 4 => 4 | 51 => 128 | 9 => 9 | 5 => 5 | 0 => 0 | n => n, fun | n => n⟩
theorem Tryz.lays285 : Go.Proofs.Lays.n285 Tryz.prog Tryz.lays285_ren := {
  mixed := by kernel_rfl
  f285 := Tryz.func74.trans (congrArg some (by kernel_rfl))
  t0 := Tryz.underlying0
  a0 := Tryz.isAgg0
  z0 := Tryz.sizeOf0
  v0 := Tryz.zeroValue0
  t3 := Tryz.underlying3
  a3 := Tryz.isAgg3
  z3 := Tryz.sizeOf3
  v3 := Tryz.zeroValue3
  t4 := Tryz.underlying4
  a4 := Tryz.isAgg4
  z4 := Tryz.sizeOf4
  v4 := Tryz.zeroValue4
  t5 := Tryz.underlying5
  a5 := Tryz.isAgg5
  z5 := Tryz.sizeOf5
  v5 := Tryz.zeroValue5
  t9 := Tryz.underlying9
  a9 := Tryz.isAgg9
  z9 := Tryz.sizeOf9
  v9 := Tryz.zeroValue9
  t37 := Tryz.underlying23
  a37 := Tryz.isAgg23
  z37 := Tryz.sizeOf23
  v37 := Tryz.zeroValue23
  t51 := Tryz.underlying128
  a51 := Tryz.isAgg128
  z51 := Tryz.sizeOf128
  v51 := Tryz.zeroValue128
  t53 := Tryz.underlying115
  a53 := Tryz.isAgg115
  z53 := Tryz.sizeOf115
  v53 := Tryz.zeroValue115 }
open Go.RowKit Go.Sort Go.Lib in
theorem Tryz.internal_strconv_formatBase10 (blk off cap : Nat) (u : Nat) (d : Array UInt8) (w : World) (hH : Holds (fun (b : UInt8) => Value.int .u8 (b.toNat : Int)) w blk off d) (hu : u < 10 ^ d.size) (hu64 : u < 18446744073709551616) (hsz : d.size < 4611686018427387904) :
    Calls Tryz.prog 74 #[.slice (some ⟨blk, off, none⟩) d.size cap, .int .u64 u] w fun e w' =>
      e = .returned (.tuple #[]) ∧ ∃ (n v' : Nat) (dk : Array UInt8), w' = (putRow (fun (b : UInt8) => Value.int .u8 (b.toNat : Int)) w blk off dk).drewN n ∧ FmtInv d.size u 0 v' dk := Any.internal_strconv_formatBase10 Tryz.lays285 blk off cap u d w hH hu hu64 hsz
def Tryz.laysM246_ren : Go.Shelf.Ren := ⟨fun | 246 => 52 | 283 => 72 | 284 => 73 | 285 => 74 | 286 => 75 | 129 => 88 | 317 => 87 | 318 => 89 | 319 => 90 | 320 => 91 | 337 => 98 | 338 => 99 | n => n, fun | 2 => 2 | 3 => 3 | 9 => 9 | 4 => 4 | 171 => 114 | 0 => 0 | 53 => 115 | 37 => 23 | 5 => 5 | 173 => 118 | 212 => 127 | 51 => 128 | 20 => 20 | 213 => 129 | 46 => 91 | 232 => 137 | 233 => 138 | n => n, fun | 17 => 1 | 18 => 2 | 19 => 3 | n => n⟩
theorem Tryz.laysM246 : Go.Proofs.LaysM.n246 Tryz.prog Tryz.laysM246_ren := {
  mixed := by kernel_rfl
  f129 := Tryz.func88.trans (congrArg some (by kernel_rfl))
  f246 := Tryz.func52.trans (congrArg some (by kernel_rfl))
  f283 := Tryz.func72.trans (congrArg some (by kernel_rfl))
  f284 := Tryz.func73.trans (congrArg some (by kernel_rfl))
  f285 := Tryz.func74.trans (congrArg some (by kernel_rfl))
  f286 := Tryz.func75.trans (congrArg some (by kernel_rfl))
  f317 := Tryz.func87.trans (congrArg some (by kernel_rfl))
  f318 := Tryz.func89.trans (congrArg some (by kernel_rfl))
  f319 := Tryz.func90.trans (congrArg some (by kernel_rfl))
  f320 := Tryz.func91.trans (congrArg some (by kernel_rfl))
  f337 := Tryz.func98.trans (congrArg some (by kernel_rfl))
  f338 := Tryz.func99.trans (congrArg some (by kernel_rfl))
  t0 := Tryz.underlying0
  a0 := Tryz.isAgg0
  z0 := Tryz.sizeOf0
  v0 := Tryz.zeroValue0
  t2 := Tryz.underlying2
  a2 := Tryz.isAgg2
  z2 := Tryz.sizeOf2
  v2 := Tryz.zeroValue2
  t3 := Tryz.underlying3
  a3 := Tryz.isAgg3
  z3 := Tryz.sizeOf3
  v3 := Tryz.zeroValue3
  t4 := Tryz.underlying4
  a4 := Tryz.isAgg4
  z4 := Tryz.sizeOf4
  v4 := Tryz.zeroValue4
  t5 := Tryz.underlying5
  a5 := Tryz.isAgg5
  z5 := Tryz.sizeOf5
  v5 := Tryz.zeroValue5
  t9 := Tryz.underlying9
  a9 := Tryz.isAgg9
  z9 := Tryz.sizeOf9
  v9 := Tryz.zeroValue9
  t20 := Tryz.underlying20
  a20 := Tryz.isAgg20
  z20 := Tryz.sizeOf20
  v20 := Tryz.zeroValue20
  t37 := Tryz.underlying23
  a37 := Tryz.isAgg23
  z37 := Tryz.sizeOf23
  v37 := Tryz.zeroValue23
  t46 := Tryz.underlying91
  a46 := Tryz.isAgg91
  z46 := Tryz.sizeOf91
  v46 := Tryz.zeroValue91
  t51 := Tryz.underlying128
  a51 := Tryz.isAgg128
  z51 := Tryz.sizeOf128
  v51 := Tryz.zeroValue128
  t53 := Tryz.underlying115
  a53 := Tryz.isAgg115
  z53 := Tryz.sizeOf115
  v53 := Tryz.zeroValue115
  t171 := Tryz.underlying114
  a171 := Tryz.isAgg114
  z171 := Tryz.sizeOf114
  v171 := Tryz.zeroValue114
  t173 := Tryz.underlying118
  a173 := Tryz.isAgg118
  z173 := Tryz.sizeOf118
  v173 := Tryz.zeroValue118
  t212 := Tryz.underlying127
  a212 := Tryz.isAgg127
  z212 := Tryz.sizeOf127
  v212 := Tryz.zeroValue127
  t213 := Tryz.underlying129
  a213 := Tryz.isAgg129
  z213 := Tryz.sizeOf129
  t232 := Tryz.underlying137
  a232 := Tryz.isAgg137
  z232 := Tryz.sizeOf137
  v232 := Tryz.zeroValue137
  t233 := Tryz.underlying138
  a233 := Tryz.isAgg138
  z233 := Tryz.sizeOf138
  v233 := Tryz.zeroValue138
  g17 := by kernel_rfl
  g18 := by kernel_rfl
  g19 := by kernel_rfl
  i0 := by kernel_rfl
  i2 := by kernel_rfl
  i3 := by kernel_rfl
  i4 := by kernel_rfl
  i5 := by kernel_rfl
  i9 := by kernel_rfl
  i20 := by kernel_rfl
  i37 := by kernel_rfl
  i46 := by kernel_rfl
  i51 := by kernel_rfl
  i53 := by kernel_rfl
  i171 := by kernel_rfl
  i173 := by kernel_rfl
  i212 := by kernel_rfl
  i232 := by kernel_rfl
  i233 := by kernel_rfl
  m17 := by kernel_rfl
  m18 := by kernel_rfl
  m19 := by kernel_rfl }
open Go.RowKit Go.Sort Go.Lib in
theorem Tryz.internal_strconv_FormatInt_10 (n : Int) (h0 : -9223372036854775808 ≤ n) (h1 : n ≤ 9223372036854775807) (w : World) (htab : Lib.TabIs Tryz.prog w "internal/strconv.uint64pow10" .u64 Lib.pow10Tab) :
    Calls Tryz.prog 52 #[.int .i64 n, .int .i64 10] w fun e w' => e = .returned (.string ⟨(Lib.itoa n).toArray⟩) ∧ ∃ k os, w' = grow (w.drewN k) os := Any.internal_strconv_FormatInt_10 Tryz.laysM246 n h0 h1 w htab
def Tryz.lays246_ren : Go.Shelf.Ren := ⟨fun | 246 => 52 | 283 => 72 | 284 => 73 | 285 => 74 | 286 => 75 | 129 => 88 | 317 => 87 | 318 => 89 | 319 => 90 | 320 => 91 | 337 => 98 | 338 => 99 | n => n, fun | 2 => 2 | 3 => 3 | 9 => 9 | 4 => 4 | 171 => 114 | 0 => 0 | 53 => 115 | 37 => 23 | 5 => 5 | 173 => 118 | 212 => 127 | 51 => 128 | 20 => 20 | 213 => 129 | 46 => 91 | 232 => 137 | 233 => 138 | n => n, fun | 17 => 1 | 18 => 2 | 19 => 3 | n => n⟩
theorem Tryz.lays246 : Go.Proofs.Lays.n246 Tryz.prog Tryz.lays246_ren := {
  mixed := by kernel_rfl
  f129 := Tryz.func88.trans (congrArg some (by kernel_rfl))
  f246 := Tryz.func52.trans (congrArg some (by kernel_rfl))
  f283 := Tryz.func72.trans (congrArg some (by kernel_rfl))
  f284 := Tryz.func73.trans (congrArg some (by kernel_rfl))
  f285 := Tryz.func74.trans (congrArg some (by kernel_rfl))
  f286 := Tryz.func75.trans (congrArg some (by kernel_rfl))
  f317 := Tryz.func87.trans (congrArg some (by kernel_rfl))
  f318 := Tryz.func89.trans (congrArg some (by kernel_rfl))
  f319 := Tryz.func90.trans (congrArg some (by kernel_rfl))
  f320 := Tryz.func91.trans (congrArg some (by kernel_rfl))
  f337 := Tryz.func98.trans (congrArg some (by kernel_rfl))
  f338 := Tryz.func99.trans (congrArg some (by kernel_rfl))
  t0 := Tryz.underlying0
  a0 := Tryz.isAgg0
  z0 := Tryz.sizeOf0
  v0 := Tryz.zeroValue0
  t2 := Tryz.underlying2
  a2 := Tryz.isAgg2
  z2 := Tryz.sizeOf2
  v2 := Tryz.zeroValue2
  t3 := Tryz.underlying3
  a3 := Tryz.isAgg3
  z3 := Tryz.sizeOf3
  v3 := Tryz.zeroValue3
  t4 := Tryz.underlying4
  a4 := Tryz.isAgg4
  z4 := Tryz.sizeOf4
  v4 := Tryz.zeroValue4
  t5 := Tryz.underlying5
  a5 := Tryz.isAgg5
  z5 := Tryz.sizeOf5
  v5 := Tryz.zeroValue5
  t9 := Tryz.underlying9
  a9 := Tryz.isAgg9
  z9 := Tryz.sizeOf9
  v9 := Tryz.zeroValue9
  t20 := Tryz.underlying20
  a20 := Tryz.isAgg20
  z20 := Tryz.sizeOf20
  v20 := Tryz.zeroValue20
  t37 := Tryz.underlying23
  a37 := Tryz.isAgg23
  z37 := Tryz.sizeOf23
  v37 := Tryz.zeroValue23
  t46 := Tryz.underlying91
  a46 := Tryz.isAgg91
  z46 := Tryz.sizeOf91
  v46 := Tryz.zeroValue91
  t51 := Tryz.underlying128
  a51 := Tryz.isAgg128
  z51 := Tryz.sizeOf128
  v51 := Tryz.zeroValue128
  t53 := Tryz.underlying115
  a53 := Tryz.isAgg115
  z53 := Tryz.sizeOf115
  v53 := Tryz.zeroValue115
  t171 := Tryz.underlying114
  a171 := Tryz.isAgg114
  z171 := Tryz.sizeOf114
  v171 := Tryz.zeroValue114
  t173 := Tryz.underlying118
  a173 := Tryz.isAgg118
  z173 := Tryz.sizeOf118
  v173 := Tryz.zeroValue118
  t212 := Tryz.underlying127
  a212 := Tryz.isAgg127
  z212 := Tryz.sizeOf127
  v212 := Tryz.zeroValue127
  t213 := Tryz.underlying129
  a213 := Tryz.isAgg129
  z213 := Tryz.sizeOf129
  t232 := Tryz.underlying137
  a232 := Tryz.isAgg137
  z232 := Tryz.sizeOf137
  v232 := Tryz.zeroValue137
  t233 := Tryz.underlying138
  a233 := Tryz.isAgg138
  z233 := Tryz.sizeOf138
  v233 := Tryz.zeroValue138
  g17 := by kernel_rfl
  g18 := by kernel_rfl
  g19 := by kernel_rfl }
open Go.RowKit Go.Sort Go.Lib in
theorem Tryz.internal_strconv_FormatInt_10_small (i : Nat) (hi : i < 100) (w : World) :
    Calls Tryz.prog 52 #[.int .i64 i, .int .i64 10] w fun e w' => e = .returned (.string ⟨(Lib.decDigits i).toArray⟩) ∧ w' = w := Any.internal_strconv_FormatInt_10_small Tryz.lays246 i hi w
def Tryz.laysM243_ren : Go.Shelf.Ren := ⟨fun | 243 => 34 | 246 => 52 | 283 => 72 | 284 => 73 | 285 => 74 | 286 => 75 | 129 => 88 | 317 => 87 | 318 => 89 | 319 => 90 | 320 => 91 | 337 => 98 | 338 => 99 | n => n, fun | 3 => 3 | 9 => 9 | 2 => 2 | 4 => 4 | 171 => 114 | 0 => 0 | 53 => 115 | 37 => 23 | 5 => 5 | 173 => 118 | 212 => 127 | 51 => 128 | 20 => 20 | 213 => 129 | 46 => 91 | 232 => 137 | 233 => 138 | n => n, fun | 17 => 1 | 18 => 2 | 19 => 3 | n => n⟩
theorem Tryz.laysM243 : Go.Proofs.LaysM.n243 Tryz.prog Tryz.laysM243_ren := {
  mixed := by kernel_rfl
  f129 := Tryz.func88.trans (congrArg some (by kernel_rfl))
  f243 := Tryz.func34.trans (congrArg some (by kernel_rfl))
  f246 := Tryz.func52.trans (congrArg some (by kernel_rfl))
  f283 := Tryz.func72.trans (congrArg some (by kernel_rfl))
  f284 := Tryz.func73.trans (congrArg some (by kernel_rfl))
  f285 := Tryz.func74.trans (congrArg some (by kernel_rfl))
  f286 := Tryz.func75.trans (congrArg some (by kernel_rfl))
  f317 := Tryz.func87.trans (congrArg some (by kernel_rfl))
  f318 := Tryz.func89.trans (congrArg some (by kernel_rfl))
  f319 := Tryz.func90.trans (congrArg some (by kernel_rfl))
  f320 := Tryz.func91.trans (congrArg some (by kernel_rfl))
  f337 := Tryz.func98.trans (congrArg some (by kernel_rfl))
  f338 := Tryz.func99.trans (congrArg some (by kernel_rfl))
  t0 := Tryz.underlying0
  a0 := Tryz.isAgg0
  z0 := Tryz.sizeOf0
  v0 := Tryz.zeroValue0
  t2 := Tryz.underlying2
  a2 := Tryz.isAgg2
  z2 := Tryz.sizeOf2
  v2 := Tryz.zeroValue2
  t3 := Tryz.underlying3
  a3 := Tryz.isAgg3
  z3 := Tryz.sizeOf3
  v3 := Tryz.zeroValue3
  t4 := Tryz.underlying4
  a4 := Tryz.isAgg4
  z4 := Tryz.sizeOf4
  v4 := Tryz.zeroValue4
  t5 := Tryz.underlying5
  a5 := Tryz.isAgg5
  z5 := Tryz.sizeOf5
  v5 := Tryz.zeroValue5
  t9 := Tryz.underlying9
  a9 := Tryz.isAgg9
  z9 := Tryz.sizeOf9
  v9 := Tryz.zeroValue9
  t20 := Tryz.underlying20
  a20 := Tryz.isAgg20
  z20 := Tryz.sizeOf20
  v20 := Tryz.zeroValue20
  t37 := Tryz.underlying23
  a37 := Tryz.isAgg23
  z37 := Tryz.sizeOf23
  v37 := Tryz.zeroValue23
  t46 := Tryz.underlying91
  a46 := Tryz.isAgg91
  z46 := Tryz.sizeOf91
  v46 := Tryz.zeroValue91
  t51 := Tryz.underlying128
  a51 := Tryz.isAgg128
  z51 := Tryz.sizeOf128
  v51 := Tryz.zeroValue128
  t53 := Tryz.underlying115
  a53 := Tryz.isAgg115
  z53 := Tryz.sizeOf115
  v53 := Tryz.zeroValue115
  t171 := Tryz.underlying114
  a171 := Tryz.isAgg114
  z171 := Tryz.sizeOf114
  v171 := Tryz.zeroValue114
  t173 := Tryz.underlying118
  a173 := Tryz.isAgg118
  z173 := Tryz.sizeOf118
  v173 := Tryz.zeroValue118
  t212 := Tryz.underlying127
  a212 := Tryz.isAgg127
  z212 := Tryz.sizeOf127
  v212 := Tryz.zeroValue127
  t213 := Tryz.underlying129
  a213 := Tryz.isAgg129
  z213 := Tryz.sizeOf129
  t232 := Tryz.underlying137
  a232 := Tryz.isAgg137
  z232 := Tryz.sizeOf137
  v232 := Tryz.zeroValue137
  t233 := Tryz.underlying138
  a233 := Tryz.isAgg138
  z233 := Tryz.sizeOf138
  v233 := Tryz.zeroValue138
  g17 := by kernel_rfl
  g18 := by kernel_rfl
  g19 := by kernel_rfl
  i0 := by kernel_rfl
  i2 := by kernel_rfl
  i3 := by kernel_rfl
  i4 := by kernel_rfl
  i5 := by kernel_rfl
  i9 := by kernel_rfl
  i20 := by kernel_rfl
  i37 := by kernel_rfl
  i46 := by kernel_rfl
  i51 := by kernel_rfl
  i53 := by kernel_rfl
  i171 := by kernel_rfl
  i173 := by kernel_rfl
  i212 := by kernel_rfl
  i232 := by kernel_rfl
  i233 := by kernel_rfl
  m17 := by kernel_rfl
  m18 := by kernel_rfl
  m19 := by kernel_rfl }
open Go.RowKit Go.Sort Go.Lib in
theorem Tryz.internal_strconv_Itoa (n : Int) (h0 : -9223372036854775808 ≤ n) (h1 : n ≤ 9223372036854775807) (w : World) (htab : Lib.TabIs Tryz.prog w "internal/strconv.uint64pow10" .u64 Lib.pow10Tab) :
    Calls Tryz.prog 34 #[.int .i64 n] w fun e w' => e = .returned (.string ⟨(Lib.itoa n).toArray⟩) ∧ ∃ k os, w' = grow (w.drewN k) os := Any.internal_strconv_Itoa Tryz.laysM243 n h0 h1 w htab
def Tryz.lays243_ren : Go.Shelf.Ren := ⟨fun | 243 => 34 | 246 => 52 | 283 => 72 | 284 => 73 | 285 => 74 | 286 => 75 | 129 => 88 | 317 => 87 | 318 => 89 | 319 => 90 | 320 => 91 | 337 => 98 | 338 => 99 | n => n, fun | 3 => 3 | 9 => 9 | 2 => 2 | 4 => 4 | 171 => 114 | 0 => 0 | 53 => 115 | 37 => 23 | 5 => 5 | 173 => 118 | 212 => 127 | 51 => 128 | 20 => 20 | 213 => 129 | 46 => 91 | 232 => 137 | 233 => 138 | n => n, fun | 17 => 1 | 18 => 2 | 19 => 3 | n => n⟩
theorem Tryz.lays243 : Go.Proofs.Lays.n243 Tryz.prog Tryz.lays243_ren := {
  mixed := by kernel_rfl
  f129 := Tryz.func88.trans (congrArg some (by kernel_rfl))
  f243 := Tryz.func34.trans (congrArg some (by kernel_rfl))
  f246 := Tryz.func52.trans (congrArg some (by kernel_rfl))
  f283 := Tryz.func72.trans (congrArg some (by kernel_rfl))
  f284 := Tryz.func73.trans (congrArg some (by kernel_rfl))
  f285 := Tryz.func74.trans (congrArg some (by kernel_rfl))
  f286 := Tryz.func75.trans (congrArg some (by kernel_rfl))
  f317 := Tryz.func87.trans (congrArg some (by kernel_rfl))
  f318 := Tryz.func89.trans (congrArg some (by kernel_rfl))
  f319 := Tryz.func90.trans (congrArg some (by kernel_rfl))
  f320 := Tryz.func91.trans (congrArg some (by kernel_rfl))
  f337 := Tryz.func98.trans (congrArg some (by kernel_rfl))
  f338 := Tryz.func99.trans (congrArg some (by kernel_rfl))
  t0 := Tryz.underlying0
  a0 := Tryz.isAgg0
  z0 := Tryz.sizeOf0
  v0 := Tryz.zeroValue0
  t2 := Tryz.underlying2
  a2 := Tryz.isAgg2
  z2 := Tryz.sizeOf2
  v2 := Tryz.zeroValue2
  t3 := Tryz.underlying3
  a3 := Tryz.isAgg3
  z3 := Tryz.sizeOf3
  v3 := Tryz.zeroValue3
  t4 := Tryz.underlying4
  a4 := Tryz.isAgg4
  z4 := Tryz.sizeOf4
  v4 := Tryz.zeroValue4
  t5 := Tryz.underlying5
  a5 := Tryz.isAgg5
  z5 := Tryz.sizeOf5
  v5 := Tryz.zeroValue5
  t9 := Tryz.underlying9
  a9 := Tryz.isAgg9
  z9 := Tryz.sizeOf9
  v9 := Tryz.zeroValue9
  t20 := Tryz.underlying20
  a20 := Tryz.isAgg20
  z20 := Tryz.sizeOf20
  v20 := Tryz.zeroValue20
  t37 := Tryz.underlying23
  a37 := Tryz.isAgg23
  z37 := Tryz.sizeOf23
  v37 := Tryz.zeroValue23
  t46 := Tryz.underlying91
  a46 := Tryz.isAgg91
  z46 := Tryz.sizeOf91
  v46 := Tryz.zeroValue91
  t51 := Tryz.underlying128
  a51 := Tryz.isAgg128
  z51 := Tryz.sizeOf128
  v51 := Tryz.zeroValue128
  t53 := Tryz.underlying115
  a53 := Tryz.isAgg115
  z53 := Tryz.sizeOf115
  v53 := Tryz.zeroValue115
  t171 := Tryz.underlying114
  a171 := Tryz.isAgg114
  z171 := Tryz.sizeOf114
  v171 := Tryz.zeroValue114
  t173 := Tryz.underlying118
  a173 := Tryz.isAgg118
  z173 := Tryz.sizeOf118
  v173 := Tryz.zeroValue118
  t212 := Tryz.underlying127
  a212 := Tryz.isAgg127
  z212 := Tryz.sizeOf127
  v212 := Tryz.zeroValue127
  t213 := Tryz.underlying129
  a213 := Tryz.isAgg129
  z213 := Tryz.sizeOf129
  t232 := Tryz.underlying137
  a232 := Tryz.isAgg137
  z232 := Tryz.sizeOf137
  v232 := Tryz.zeroValue137
  t233 := Tryz.underlying138
  a233 := Tryz.isAgg138
  z233 := Tryz.sizeOf138
  v233 := Tryz.zeroValue138
  g17 := by kernel_rfl
  g18 := by kernel_rfl
  g19 := by kernel_rfl }
open Go.RowKit Go.Sort Go.Lib in
theorem Tryz.internal_strconv_Itoa_small (i : Nat) (hi : i < 100) (w : World) :
    Calls Tryz.prog 34 #[.int .i64 i] w fun e w' => e = .returned (.string ⟨(Lib.decDigits i).toArray⟩) ∧ w' = w := Any.internal_strconv_Itoa_small Tryz.lays243 i hi w
def Tryz.laysM171_ren : Go.Shelf.Ren := ⟨fun | 171 => 17 | 243 => 34 | 246 => 52 | 283 => 72 | 284 => 73 | 285 => 74 | 286 => 75 | 129 => 88 | 317 => 87 | 318 => 89 | 319 => 90 | 320 => 91 | 337 => 98 | 338 => 99 | n => n, fun | 3 => 3 | 9 => 9 | 2 => 2 | 4 => 4 | 171 => 114 | 0 => 0 | 53 => 115 | 37 => 23 | 5 => 5 | 173 => 118 | 212 => 127 | 51 => 128 | 20 => 20 | 213 => 129 | 46 => 91 | 232 => 137 | 233 => 138 | n => n, fun | 17 => 1 | 18 => 2 | 19 => 3 | n => n⟩
theorem Tryz.laysM171 : Go.Proofs.LaysM.n171 Tryz.prog Tryz.laysM171_ren := {
  mixed := by kernel_rfl
  f129 := Tryz.func88.trans (congrArg some (by kernel_rfl))
  f171 := Tryz.func17.trans (congrArg some (by kernel_rfl))
  f243 := Tryz.func34.trans (congrArg some (by kernel_rfl))
  f246 := Tryz.func52.trans (congrArg some (by kernel_rfl))
  f283 := Tryz.func72.trans (congrArg some (by kernel_rfl))
  f284 := Tryz.func73.trans (congrArg some (by kernel_rfl))
  f285 := Tryz.func74.trans (congrArg some (by kernel_rfl))
  f286 := Tryz.func75.trans (congrArg some (by kernel_rfl))
  f317 := Tryz.func87.trans (congrArg some (by kernel_rfl))
  f318 := Tryz.func89.trans (congrArg some (by kernel_rfl))
  f319 := Tryz.func90.trans (congrArg some (by kernel_rfl))
  f320 := Tryz.func91.trans (congrArg some (by kernel_rfl))
  f337 := Tryz.func98.trans (congrArg some (by kernel_rfl))
  f338 := Tryz.func99.trans (congrArg some (by kernel_rfl))
  t0 := Tryz.underlying0
  a0 := Tryz.isAgg0
  z0 := Tryz.sizeOf0
  v0 := Tryz.zeroValue0
  t2 := Tryz.underlying2
  a2 := Tryz.isAgg2
  z2 := Tryz.sizeOf2
  v2 := Tryz.zeroValue2
  t3 := Tryz.underlying3
  a3 := Tryz.isAgg3
  z3 := Tryz.sizeOf3
  v3 := Tryz.zeroValue3
  t4 := Tryz.underlying4
  a4 := Tryz.isAgg4
  z4 := Tryz.sizeOf4
  v4 := Tryz.zeroValue4
  t5 := Tryz.underlying5
  a5 := Tryz.isAgg5
  z5 := Tryz.sizeOf5
  v5 := Tryz.zeroValue5
  t9 := Tryz.underlying9
  a9 := Tryz.isAgg9
  z9 := Tryz.sizeOf9
  v9 := Tryz.zeroValue9
  t20 := Tryz.underlying20
  a20 := Tryz.isAgg20
  z20 := Tryz.sizeOf20
  v20 := Tryz.zeroValue20
  t37 := Tryz.underlying23
  a37 := Tryz.isAgg23
  z37 := Tryz.sizeOf23
  v37 := Tryz.zeroValue23
  t46 := Tryz.underlying91
  a46 := Tryz.isAgg91
  z46 := Tryz.sizeOf91
  v46 := Tryz.zeroValue91
  t51 := Tryz.underlying128
  a51 := Tryz.isAgg128
  z51 := Tryz.sizeOf128
  v51 := Tryz.zeroValue128
  t53 := Tryz.underlying115
  a53 := Tryz.isAgg115
  z53 := Tryz.sizeOf115
  v53 := Tryz.zeroValue115
  t171 := Tryz.underlying114
  a171 := Tryz.isAgg114
  z171 := Tryz.sizeOf114
  v171 := Tryz.zeroValue114
  t173 := Tryz.underlying118
  a173 := Tryz.isAgg118
  z173 := Tryz.sizeOf118
  v173 := Tryz.zeroValue118
  t212 := Tryz.underlying127
  a212 := Tryz.isAgg127
  z212 := Tryz.sizeOf127
  v212 := Tryz.zeroValue127
  t213 := Tryz.underlying129
  a213 := Tryz.isAgg129
  z213 := Tryz.sizeOf129
  t232 := Tryz.underlying137
  a232 := Tryz.isAgg137
  z232 := Tryz.sizeOf137
  v232 := Tryz.zeroValue137
  t233 := Tryz.underlying138
  a233 := Tryz.isAgg138
  z233 := Tryz.sizeOf138
  v233 := Tryz.zeroValue138
  g17 := by kernel_rfl
  g18 := by kernel_rfl
  g19 := by kernel_rfl
  i0 := by kernel_rfl
  i2 := by kernel_rfl
  i3 := by kernel_rfl
  i4 := by kernel_rfl
  i5 := by kernel_rfl
  i9 := by kernel_rfl
  i20 := by kernel_rfl
  i37 := by kernel_rfl
  i46 := by kernel_rfl
  i51 := by kernel_rfl
  i53 := by kernel_rfl
  i171 := by kernel_rfl
  i173 := by kernel_rfl
  i212 := by kernel_rfl
  i232 := by kernel_rfl
  i233 := by kernel_rfl
  m17 := by kernel_rfl
  m18 := by kernel_rfl
  m19 := by kernel_rfl }
open Go.RowKit Go.Sort Go.Lib in
theorem Tryz.strconv_Itoa (n : Int) (h0 : -9223372036854775808 ≤ n) (h1 : n ≤ 9223372036854775807) (w : World) (htab : Lib.TabIs Tryz.prog w "internal/strconv.uint64pow10" .u64 Lib.pow10Tab) :
    Calls Tryz.prog 17 #[.int .i64 n] w fun e w' => e = .returned (.string ⟨(Lib.itoa n).toArray⟩) ∧ ∃ k os, w' = grow (w.drewN k) os := Any.strconv_Itoa Tryz.laysM171 n h0 h1 w htab
def Tryz.lays171_ren : Go.Shelf.Ren := ⟨fun | 171 => 17 | 243 => 34 | 246 => 52 | 283 => 72 | 284 => 73 | 285 => 74 | 286 => 75 | 129 => 88 | 317 => 87 | 318 => 89 | 319 => 90 | 320 => 91 | 337 => 98 | 338 => 99 | n => n, fun | 3 => 3 | 9 => 9 | 2 => 2 | 4 => 4 | 171 => 114 | 0 => 0 | 53 => 115 | 37 => 23 | 5 => 5 | 173 => 118 | 212 => 127 | 51 => 128 | 20 => 20 | 213 => 129 | 46 => 91 | 232 => 137 | 233 => 138 | n => n, fun | 17 => 1 | 18 => 2 | 19 => 3 | n => n⟩
theorem Tryz.lays171 : Go.Proofs.Lays.n171 Tryz.prog Tryz.lays171_ren := {
  mixed := by kernel_rfl
  f129 := Tryz.func88.trans (congrArg some (by kernel_rfl))
  f171 := Tryz.func17.trans (congrArg some (by kernel_rfl))
  f243 := Tryz.func34.trans (congrArg some (by kernel_rfl))
  f246 := Tryz.func52.trans (congrArg some (by kernel_rfl))
  f283 := Tryz.func72.trans (congrArg some (by kernel_rfl))
  f284 := Tryz.func73.trans (congrArg some (by kernel_rfl))
  f285 := Tryz.func74.trans (congrArg some (by kernel_rfl))
  f286 := Tryz.func75.trans (congrArg some (by kernel_rfl))
  f317 := Tryz.func87.trans (congrArg some (by kernel_rfl))
  f318 := Tryz.func89.trans (congrArg some (by kernel_rfl))
  f319 := Tryz.func90.trans (congrArg some (by kernel_rfl))
  f320 := Tryz.func91.trans (congrArg some (by kernel_rfl))
  f337 := Tryz.func98.trans (congrArg some (by kernel_rfl))
  f338 := Tryz.func99.trans (congrArg some (by kernel_rfl))
  t0 := Tryz.underlying0
  a0 := Tryz.isAgg0
  z0 := Tryz.sizeOf0
  v0 := Tryz.zeroValue0
  t2 := Tryz.underlying2
  a2 := Tryz.isAgg2
  z2 := Tryz.sizeOf2
  v2 := Tryz.zeroValue2
  t3 := Tryz.underlying3
  a3 := Tryz.isAgg3
  z3 := Tryz.sizeOf3
  v3 := Tryz.zeroValue3
  t4 := Tryz.underlying4
  a4 := Tryz.isAgg4
  z4 := Tryz.sizeOf4
  v4 := Tryz.zeroValue4
  t5 := Tryz.underlying5
  a5 := Tryz.isAgg5
  z5 := Tryz.sizeOf5
  v5 := Tryz.zeroValue5
  t9 := Tryz.underlying9
  a9 := Tryz.isAgg9
  z9 := Tryz.sizeOf9
  v9 := Tryz.zeroValue9
  t20 := Tryz.underlying20
  a20 := Tryz.isAgg20
  z20 := Tryz.sizeOf20
  v20 := Tryz.zeroValue20
  t37 := Tryz.underlying23
  a37 := Tryz.isAgg23
  z37 := Tryz.sizeOf23
  v37 := Tryz.zeroValue23
  t46 := Tryz.underlying91
  a46 := Tryz.isAgg91
  z46 := Tryz.sizeOf91
  v46 := Tryz.zeroValue91
  t51 := Tryz.underlying128
  a51 := Tryz.isAgg128
  z51 := Tryz.sizeOf128
  v51 := Tryz.zeroValue128
  t53 := Tryz.underlying115
  a53 := Tryz.isAgg115
  z53 := Tryz.sizeOf115
  v53 := Tryz.zeroValue115
  t171 := Tryz.underlying114
  a171 := Tryz.isAgg114
  z171 := Tryz.sizeOf114
  v171 := Tryz.zeroValue114
  t173 := Tryz.underlying118
  a173 := Tryz.isAgg118
  z173 := Tryz.sizeOf118
  v173 := Tryz.zeroValue118
  t212 := Tryz.underlying127
  a212 := Tryz.isAgg127
  z212 := Tryz.sizeOf127
  v212 := Tryz.zeroValue127
  t213 := Tryz.underlying129
  a213 := Tryz.isAgg129
  z213 := Tryz.sizeOf129
  t232 := Tryz.underlying137
  a232 := Tryz.isAgg137
  z232 := Tryz.sizeOf137
  v232 := Tryz.zeroValue137
  t233 := Tryz.underlying138
  a233 := Tryz.isAgg138
  z233 := Tryz.sizeOf138
  v233 := Tryz.zeroValue138
  g17 := by kernel_rfl
  g18 := by kernel_rfl
  g19 := by kernel_rfl }
open Go.RowKit Go.Sort Go.Lib in
theorem Tryz.strconv_Itoa_small (i : Nat) (hi : i < 100) (w : World) :
    Calls Tryz.prog 17 #[.int .i64 i] w fun e w' => e = .returned (.string ⟨(Lib.decDigits i).toArray⟩) ∧ w' = w := Any.strconv_Itoa_small Tryz.lays171 i hi w
def Tryz.lays217_ren : Go.Shelf.Ren := ⟨fun | 217 => 76 | 266 => 92 | n => n, fun | 9 => 9 | 5 => 5 | 3 => 3 | n => n, fun | n => n⟩
theorem Tryz.lays217 : Go.Proofs.Lays.n217 Tryz.prog Tryz.lays217_ren := {
  mixed := by kernel_rfl
  f217 := Tryz.func76.trans (congrArg some (by kernel_rfl))
  f266 := Tryz.func92.trans (congrArg some (by kernel_rfl))
  t3 := Tryz.underlying3
  a3 := Tryz.isAgg3
  z3 := Tryz.sizeOf3
  v3 := Tryz.zeroValue3
  t5 := Tryz.underlying5
  a5 := Tryz.isAgg5
  z5 := Tryz.sizeOf5
  v5 := Tryz.zeroValue5
  t9 := Tryz.underlying9
  a9 := Tryz.isAgg9
  z9 := Tryz.sizeOf9
  v9 := Tryz.zeroValue9 }
open Go.RowKit Go.Lib in
theorem Tryz.stringslite_IndexByte (s : ByteArray) (c : Int) (w : World) :
    Calls Tryz.prog 76 #[.string s, .int .u8 c] w fun e w' => e = .returned (.int .i64 (Lib.indexByte s.data.toList c.toNat.toUInt8)) ∧ w' = w := Any.stringslite_IndexByte Tryz.lays217 s c w
def Tryz.lays224_ren : Go.Shelf.Ren := ⟨fun | 224 => 78 | n => n, fun | 3 => 3 | n => n, fun | n => n⟩
theorem Tryz.lays224 : Go.Proofs.Lays.n224 Tryz.prog Tryz.lays224_ren := {
  mixed := by kernel_rfl
  f224 := Tryz.func78.trans (congrArg some (by kernel_rfl))
  t3 := Tryz.underlying3
  a3 := Tryz.isAgg3
  z3 := Tryz.sizeOf3
  v3 := Tryz.zeroValue3 }
open Go.RowKit Go.Lib in
theorem Tryz.bytealg_Cutover (n : Int) (h0 : 0 ≤ n) (h1 : n < 4611686018427387904) (w : World) :
    Calls Tryz.prog 78 #[.int .i64 n] w fun e w' => e = .returned (.int .i64 ((n + 16) / 8)) ∧ w' = w := Any.bytealg_Cutover Tryz.lays224 n h0 h1 w
def Tryz.lays314_ren : Go.Shelf.Ren := ⟨fun | 314 => 93 | n => n, fun | 9 => 9 | 51 => 128 | 3 => 3 | 4 => 4 | 5 => 5 | 46 => 91 | n => n, fun | n => n⟩
theorem Tryz.lays314 : Go.Proofs.Lays.n314 Tryz.prog Tryz.lays314_ren := {
  mixed := by kernel_rfl
  f314 := Tryz.func93.trans (congrArg some (by kernel_rfl))
  t3 := Tryz.underlying3
  a3 := Tryz.isAgg3
  z3 := Tryz.sizeOf3
  v3 := Tryz.zeroValue3
  t4 := Tryz.underlying4
  a4 := Tryz.isAgg4
  z4 := Tryz.sizeOf4
  v4 := Tryz.zeroValue4
  t5 := Tryz.underlying5
  a5 := Tryz.isAgg5
  z5 := Tryz.sizeOf5
  v5 := Tryz.zeroValue5
  t9 := Tryz.underlying9
  a9 := Tryz.isAgg9
  z9 := Tryz.sizeOf9
  v9 := Tryz.zeroValue9
  t46 := Tryz.underlying91
  a46 := Tryz.isAgg91
  z46 := Tryz.sizeOf91
  v46 := Tryz.zeroValue91
  t51 := Tryz.underlying128
  a51 := Tryz.isAgg128
  z51 := Tryz.sizeOf128
  v51 := Tryz.zeroValue128 }
open Go.RowKit Go.Lib in
theorem Tryz.bytealg_hashStr (sep : ByteArray) (hs : sep.size < 4294967281) (w : World) :
    Calls Tryz.prog 93 #[.string sep] w fun e w' => e = .returned (.tuple #[.int .u32 (RK.H sep.data.toList % 4294967296), .int .u32 (16777619 ^ sep.size % 4294967296)]) ∧ w' = w := Any.bytealg_hashStr Tryz.lays314 sep hs w
def Tryz.lays267_ren : Go.Shelf.Ren := ⟨fun | 267 => 79 | 314 => 93 | n => n, fun | 9 => 9 | 3 => 3 | 146 => 131 | 51 => 128 | 4 => 4 | 5 => 5 | 46 => 91 | n => n, fun | n => n⟩
theorem Tryz.lays267 : Go.Proofs.Lays.n267 Tryz.prog Tryz.lays267_ren := {
  mixed := by kernel_rfl
  f267 := Tryz.func79.trans (congrArg some (by kernel_rfl))
  f314 := Tryz.func93.trans (congrArg some (by kernel_rfl))
  t3 := Tryz.underlying3
  a3 := Tryz.isAgg3
  z3 := Tryz.sizeOf3
  v3 := Tryz.zeroValue3
  t4 := Tryz.underlying4
  a4 := Tryz.isAgg4
  z4 := Tryz.sizeOf4
  v4 := Tryz.zeroValue4
  t5 := Tryz.underlying5
  a5 := Tryz.isAgg5
  z5 := Tryz.sizeOf5
  v5 := Tryz.zeroValue5
  t9 := Tryz.underlying9
  a9 := Tryz.isAgg9
  z9 := Tryz.sizeOf9
  v9 := Tryz.zeroValue9
  t46 := Tryz.underlying91
  a46 := Tryz.isAgg91
  z46 := Tryz.sizeOf91
  v46 := Tryz.zeroValue91
  t51 := Tryz.underlying128
  a51 := Tryz.isAgg128
  z51 := Tryz.sizeOf128
  v51 := Tryz.zeroValue128
  t146 := Tryz.underlying131
  a146 := Tryz.isAgg131
  z146 := Tryz.sizeOf131
  v146 := Tryz.zeroValue131 }
open Go.RowKit Go.Lib in
theorem Tryz.bytealg_IndexRabinKarp (s sep : ByteArray) (h1 : 1 ≤ sep.size) (h2 : sep.size ≤ s.size) (hs : s.size < 4294967281) (w : World) :
    Calls Tryz.prog 79 #[.string s, .string sep] w fun e w' => e = .returned (.int .i64 (Lib.index s.data.toList sep.data.toList)) ∧ w' = w := Any.bytealg_IndexRabinKarp Tryz.lays267 s sep h1 h2 hs w
def Tryz.lays219_ren : Go.Shelf.Ren := ⟨fun | 219 => 53 | 217 => 76 | 225 => 77 | 224 => 78 | 267 => 79 | 266 => 92 | 314 => 93 | n => n, fun | 9 => 9 | 3 => 3 | 4 => 4 | 5 => 5 | 46 => 91 | 146 => 131 | 51 => 128 | n => n, fun | 1 => 0 | n => n⟩
theorem Tryz.lays219 : Go.Proofs.Lays.n219 Tryz.prog Tryz.lays219_ren := {
  mixed := by kernel_rfl
  f217 := Tryz.func76.trans (congrArg some (by kernel_rfl))
  f219 := Tryz.func53.trans (congrArg some (by kernel_rfl))
  f224 := Tryz.func78.trans (congrArg some (by kernel_rfl))
  f225 := Tryz.func77.trans (congrArg some (by kernel_rfl))
  f266 := Tryz.func92.trans (congrArg some (by kernel_rfl))
  f267 := Tryz.func79.trans (congrArg some (by kernel_rfl))
  f314 := Tryz.func93.trans (congrArg some (by kernel_rfl))
  t3 := Tryz.underlying3
  a3 := Tryz.isAgg3
  z3 := Tryz.sizeOf3
  v3 := Tryz.zeroValue3
  t4 := Tryz.underlying4
  a4 := Tryz.isAgg4
  z4 := Tryz.sizeOf4
  v4 := Tryz.zeroValue4
  t5 := Tryz.underlying5
  a5 := Tryz.isAgg5
  z5 := Tryz.sizeOf5
  v5 := Tryz.zeroValue5
  t9 := Tryz.underlying9
  a9 := Tryz.isAgg9
  z9 := Tryz.sizeOf9
  v9 := Tryz.zeroValue9
  t46 := Tryz.underlying91
  a46 := Tryz.isAgg91
  z46 := Tryz.sizeOf91
  v46 := Tryz.zeroValue91
  t51 := Tryz.underlying128
  a51 := Tryz.isAgg128
  z51 := Tryz.sizeOf128
  v51 := Tryz.zeroValue128
  t146 := Tryz.underlying131
  a146 := Tryz.isAgg131
  z146 := Tryz.sizeOf131
  v146 := Tryz.zeroValue131
  g1 := by kernel_rfl }
open Go.RowKit Go.Lib in
theorem Tryz.stringslite_Index_one (s : ByteArray) (c : UInt8) (w : World) :
    Calls Tryz.prog 53 #[.string s, .string ⟨#[c]⟩] w fun e w' => e = .returned (.int .i64 (Lib.indexByte s.data.toList c)) ∧ w' = w := Any.stringslite_Index_one Tryz.lays219 s c w
open Go.RowKit Go.Lib in
theorem Tryz.stringslite_Index (s sub : ByteArray) (m : Int) (w : World) (hs : s.size < 4294967281) (hm : w.cell? ⟨0, 0, none⟩ = some (.int .i64 m)) :
    Calls Tryz.prog 53 #[.string s, .string sub] w fun e w' => e = .returned (.int .i64 (Lib.index s.data.toList sub.data.toList)) ∧ w' = w := Any.stringslite_Index Tryz.lays219 s sub m w hs hm
def Tryz.lays143_ren : Go.Shelf.Ren := ⟨fun | 143 => 102 | 219 => 53 | 217 => 76 | 225 => 77 | 224 => 78 | 267 => 79 | 266 => 92 | 314 => 93 | n => n, fun | 9 => 9 | 3 => 3 | 4 => 4 | 5 => 5 | 46 => 91 | 146 => 131 | 51 => 128 | n => n, fun | 1 => 0 | n => n⟩
theorem Tryz.lays143 : Go.Proofs.Lays.n143 Tryz.prog Tryz.lays143_ren := {
  mixed := by kernel_rfl
  f143 := Tryz.func102.trans (congrArg some (by kernel_rfl))
  f217 := Tryz.func76.trans (congrArg some (by kernel_rfl))
  f219 := Tryz.func53.trans (congrArg some (by kernel_rfl))
  f224 := Tryz.func78.trans (congrArg some (by kernel_rfl))
  f225 := Tryz.func77.trans (congrArg some (by kernel_rfl))
  f266 := Tryz.func92.trans (congrArg some (by kernel_rfl))
  f267 := Tryz.func79.trans (congrArg some (by kernel_rfl))
  f314 := Tryz.func93.trans (congrArg some (by kernel_rfl))
  t3 := Tryz.underlying3
  a3 := Tryz.isAgg3
  z3 := Tryz.sizeOf3
  v3 := Tryz.zeroValue3
  t4 := Tryz.underlying4
  a4 := Tryz.isAgg4
  z4 := Tryz.sizeOf4
  v4 := Tryz.zeroValue4
  t5 := Tryz.underlying5
  a5 := Tryz.isAgg5
  z5 := Tryz.sizeOf5
  v5 := Tryz.zeroValue5
  t9 := Tryz.underlying9
  a9 := Tryz.isAgg9
  z9 := Tryz.sizeOf9
  v9 := Tryz.zeroValue9
  t46 := Tryz.underlying91
  a46 := Tryz.isAgg91
  z46 := Tryz.sizeOf91
  v46 := Tryz.zeroValue91
  t51 := Tryz.underlying128
  a51 := Tryz.isAgg128
  z51 := Tryz.sizeOf128
  v51 := Tryz.zeroValue128
  t146 := Tryz.underlying131
  a146 := Tryz.isAgg131
  z146 := Tryz.sizeOf131
  v146 := Tryz.zeroValue131
  g1 := by kernel_rfl }
open Go.RowKit Go.Lib in
theorem Tryz.strings_Index_one (s : ByteArray) (c : UInt8) (w : World) :
    Calls Tryz.prog 102 #[.string s, .string ⟨#[c]⟩] w fun e w' => e = .returned (.int .i64 (Lib.indexByte s.data.toList c)) ∧ w' = w := Any.strings_Index_one Tryz.lays143 s c w
open Go.RowKit Go.Lib in
theorem Tryz.strings_Index (s sub : ByteArray) (m : Int) (w : World) (hs : s.size < 4294967281) (hm : w.cell? ⟨0, 0, none⟩ = some (.int .i64 m)) :
    Calls Tryz.prog 102 #[.string s, .string sub] w fun e w' => e = .returned (.int .i64 (Lib.index s.data.toList sub.data.toList)) ∧ w' = w := Any.strings_Index Tryz.lays143 s sub m w hs hm
def Tryz.lays220_ren : Go.Shelf.Ren := ⟨fun | 220 => 35 | 219 => 53 | 217 => 76 | 225 => 77 | 224 => 78 | 267 => 79 | 266 => 92 | 314 => 93 | n => n, fun | 9 => 9 | 4 => 4 | 3 => 3 | 5 => 5 | 46 => 91 | 146 => 131 | 51 => 128 | n => n, fun | 1 => 0 | n => n⟩
theorem Tryz.lays220 : Go.Proofs.Lays.n220 Tryz.prog Tryz.lays220_ren := {
  mixed := by kernel_rfl
  f217 := Tryz.func76.trans (congrArg some (by kernel_rfl))
  f219 := Tryz.func53.trans (congrArg some (by kernel_rfl))
  f220 := Tryz.func35.trans (congrArg some (by kernel_rfl))
  f224 := Tryz.func78.trans (congrArg some (by kernel_rfl))
  f225 := Tryz.func77.trans (congrArg some (by kernel_rfl))
  f266 := Tryz.func92.trans (congrArg some (by kernel_rfl))
  f267 := Tryz.func79.trans (congrArg some (by kernel_rfl))
  f314 := Tryz.func93.trans (congrArg some (by kernel_rfl))
  t3 := Tryz.underlying3
  a3 := Tryz.isAgg3
  z3 := Tryz.sizeOf3
  v3 := Tryz.zeroValue3
  t4 := Tryz.underlying4
  a4 := Tryz.isAgg4
  z4 := Tryz.sizeOf4
  v4 := Tryz.zeroValue4
  t5 := Tryz.underlying5
  a5 := Tryz.isAgg5
  z5 := Tryz.sizeOf5
  v5 := Tryz.zeroValue5
  t9 := Tryz.underlying9
  a9 := Tryz.isAgg9
  z9 := Tryz.sizeOf9
  v9 := Tryz.zeroValue9
  t46 := Tryz.underlying91
  a46 := Tryz.isAgg91
  z46 := Tryz.sizeOf91
  v46 := Tryz.zeroValue91
  t51 := Tryz.underlying128
  a51 := Tryz.isAgg128
  z51 := Tryz.sizeOf128
  v51 := Tryz.zeroValue128
  t146 := Tryz.underlying131
  a146 := Tryz.isAgg131
  z146 := Tryz.sizeOf131
  v146 := Tryz.zeroValue131
  g1 := by kernel_rfl }
open Go.RowKit Go.Lib in
theorem Tryz.stringslite_Cut (s sep : ByteArray) (m : Int) (w : World) (hs : s.size < 4294967281) (hm : w.cell? ⟨0, 0, none⟩ = some (.int .i64 m)) :
    Calls Tryz.prog 35 #[.string s, .string sep] w fun e w' => e = .returned (.tuple #[.string ⟨(Lib.cut s.data.toList sep.data.toList).1.toArray⟩, .string ⟨(Lib.cut s.data.toList sep.data.toList).2.1.toArray⟩, .bool (Lib.cut s.data.toList sep.data.toList).2.2]) ∧ ∃ n, w' = w.drewN n := Any.stringslite_Cut Tryz.lays220 s sep m w hs hm
def Tryz.lays145_ren : Go.Shelf.Ren := ⟨fun | 145 => 18 | 220 => 35 | 219 => 53 | 217 => 76 | 225 => 77 | 224 => 78 | 267 => 79 | 266 => 92 | 314 => 93 | n => n, fun | 9 => 9 | 4 => 4 | 59 => 54 | 3 => 3 | 5 => 5 | 46 => 91 | 146 => 131 | 51 => 128 | n => n, fun | 1 => 0 | n => n⟩
theorem Tryz.lays145 : Go.Proofs.Lays.n145 Tryz.prog Tryz.lays145_ren := {
  mixed := by kernel_rfl
  f145 := Tryz.func18.trans (congrArg some (by kernel_rfl))
  f217 := Tryz.func76.trans (congrArg some (by kernel_rfl))
  f219 := Tryz.func53.trans (congrArg some (by kernel_rfl))
  f220 := Tryz.func35.trans (congrArg some (by kernel_rfl))
  f224 := Tryz.func78.trans (congrArg some (by kernel_rfl))
  f225 := Tryz.func77.trans (congrArg some (by kernel_rfl))
  f266 := Tryz.func92.trans (congrArg some (by kernel_rfl))
  f267 := Tryz.func79.trans (congrArg some (by kernel_rfl))
  f314 := Tryz.func93.trans (congrArg some (by kernel_rfl))
  t3 := Tryz.underlying3
  a3 := Tryz.isAgg3
  z3 := Tryz.sizeOf3
  v3 := Tryz.zeroValue3
  t4 := Tryz.underlying4
  a4 := Tryz.isAgg4
  z4 := Tryz.sizeOf4
  v4 := Tryz.zeroValue4
  t5 := Tryz.underlying5
  a5 := Tryz.isAgg5
  z5 := Tryz.sizeOf5
  v5 := Tryz.zeroValue5
  t9 := Tryz.underlying9
  a9 := Tryz.isAgg9
  z9 := Tryz.sizeOf9
  v9 := Tryz.zeroValue9
  t46 := Tryz.underlying91
  a46 := Tryz.isAgg91
  z46 := Tryz.sizeOf91
  v46 := Tryz.zeroValue91
  t51 := Tryz.underlying128
  a51 := Tryz.isAgg128
  z51 := Tryz.sizeOf128
  v51 := Tryz.zeroValue128
  t59 := Tryz.underlying54
  a59 := Tryz.isAgg54
  z59 := Tryz.sizeOf54
  v59 := Tryz.zeroValue54
  t146 := Tryz.underlying131
  a146 := Tryz.isAgg131
  z146 := Tryz.sizeOf131
  v146 := Tryz.zeroValue131
  g1 := by kernel_rfl }
open Go.RowKit Go.Lib in
theorem Tryz.strings_Cut (s sep : ByteArray) (m : Int) (w : World) (hs : s.size < 4294967281) (hm : w.cell? ⟨0, 0, none⟩ = some (.int .i64 m)) :
    Calls Tryz.prog 18 #[.string s, .string sep] w fun e w' => e = .returned (.tuple #[.string ⟨(Lib.cut s.data.toList sep.data.toList).1.toArray⟩, .string ⟨(Lib.cut s.data.toList sep.data.toList).2.1.toArray⟩, .bool (Lib.cut s.data.toList sep.data.toList).2.2]) ∧ ∃ n, w' = w.drewN n := Any.strings_Cut Tryz.lays145 s sep m w hs hm
def Tryz.lays138_ren : Go.Shelf.Ren := ⟨fun | 138 => 101 | 195 => 103 | 218 => 105 | 143 => 102 | 219 => 53 | 217 => 76 | 225 => 77 | 224 => 78 | 267 => 79 | 266 => 92 | 314 => 93 | n => n, fun | 9 => 9 | 3 => 3 | 4 => 4 | 5 => 5 | 0 => 0 | 46 => 91 | 146 => 131 | 51 => 128 | n => n, fun | 1 => 0 | n => n⟩
theorem Tryz.lays138 : Go.Proofs.Lays.n138 Tryz.prog Tryz.lays138_ren := {
  mixed := by kernel_rfl
  f138 := Tryz.func101.trans (congrArg some (by kernel_rfl))
  f143 := Tryz.func102.trans (congrArg some (by kernel_rfl))
  f195 := Tryz.func103.trans (congrArg some (by kernel_rfl))
  f217 := Tryz.func76.trans (congrArg some (by kernel_rfl))
  f218 := Tryz.func105.trans (congrArg some (by kernel_rfl))
  f219 := Tryz.func53.trans (congrArg some (by kernel_rfl))
  f224 := Tryz.func78.trans (congrArg some (by kernel_rfl))
  f225 := Tryz.func77.trans (congrArg some (by kernel_rfl))
  f266 := Tryz.func92.trans (congrArg some (by kernel_rfl))
  f267 := Tryz.func79.trans (congrArg some (by kernel_rfl))
  f314 := Tryz.func93.trans (congrArg some (by kernel_rfl))
  t0 := Tryz.underlying0
  a0 := Tryz.isAgg0
  z0 := Tryz.sizeOf0
  v0 := Tryz.zeroValue0
  t3 := Tryz.underlying3
  a3 := Tryz.isAgg3
  z3 := Tryz.sizeOf3
  v3 := Tryz.zeroValue3
  t4 := Tryz.underlying4
  a4 := Tryz.isAgg4
  z4 := Tryz.sizeOf4
  v4 := Tryz.zeroValue4
  t5 := Tryz.underlying5
  a5 := Tryz.isAgg5
  z5 := Tryz.sizeOf5
  v5 := Tryz.zeroValue5
  t9 := Tryz.underlying9
  a9 := Tryz.isAgg9
  z9 := Tryz.sizeOf9
  v9 := Tryz.zeroValue9
  t46 := Tryz.underlying91
  a46 := Tryz.isAgg91
  z46 := Tryz.sizeOf91
  v46 := Tryz.zeroValue91
  t51 := Tryz.underlying128
  a51 := Tryz.isAgg128
  z51 := Tryz.sizeOf128
  v51 := Tryz.zeroValue128
  t146 := Tryz.underlying131
  a146 := Tryz.isAgg131
  z146 := Tryz.sizeOf131
  v146 := Tryz.zeroValue131
  g1 := by kernel_rfl }
open Go.RowKit Go.Lib in
theorem Tryz.strings_Count_one (s : ByteArray) (c : UInt8) (w : World) :
    Calls Tryz.prog 101 #[.string s, .string ⟨#[c]⟩] w fun e w' => e = .returned (.int .i64 (Lib.countByte s.data.toList c)) ∧ w' = w := Any.strings_Count_one Tryz.lays138 s c w
open Go.RowKit Go.Lib in
theorem Tryz.strings_Count (s sub : ByteArray) (m : Int) (w : World) (hs : s.size < 4294967281) (hm : w.cell? ⟨0, 0, none⟩ = some (.int .i64 m)) (h2 : 2 ≤ sub.size) :
    Calls Tryz.prog 101 #[.string s, .string sub] w fun e w' => e = .returned (.int .i64 (Lib.countB s sub)) ∧ w' = w := Any.strings_Count Tryz.lays138 s sub m w hs hm h2
def Tryz.laysM219_ren : Go.Shelf.Ren := ⟨fun | 219 => 53 | 217 => 76 | 225 => 77 | 224 => 78 | 267 => 79 | 266 => 92 | 314 => 93 | n => n, fun | 9 => 9 | 3 => 3 | 4 => 4 | 5 => 5 | 46 => 91 | 146 => 131 | 51 => 128 | n => n, fun | 1 => 0 | n => n⟩
theorem Tryz.laysM219 : Go.Proofs.LaysM.n219 Tryz.prog Tryz.laysM219_ren := {
  mixed := by kernel_rfl
  f217 := Tryz.func76.trans (congrArg some (by kernel_rfl))
  f219 := Tryz.func53.trans (congrArg some (by kernel_rfl))
  f224 := Tryz.func78.trans (congrArg some (by kernel_rfl))
  f225 := Tryz.func77.trans (congrArg some (by kernel_rfl))
  f266 := Tryz.func92.trans (congrArg some (by kernel_rfl))
  f267 := Tryz.func79.trans (congrArg some (by kernel_rfl))
  f314 := Tryz.func93.trans (congrArg some (by kernel_rfl))
  t3 := Tryz.underlying3
  a3 := Tryz.isAgg3
  z3 := Tryz.sizeOf3
  v3 := Tryz.zeroValue3
  t4 := Tryz.underlying4
  a4 := Tryz.isAgg4
  z4 := Tryz.sizeOf4
  v4 := Tryz.zeroValue4
  t5 := Tryz.underlying5
  a5 := Tryz.isAgg5
  z5 := Tryz.sizeOf5
  v5 := Tryz.zeroValue5
  t9 := Tryz.underlying9
  a9 := Tryz.isAgg9
  z9 := Tryz.sizeOf9
  v9 := Tryz.zeroValue9
  t46 := Tryz.underlying91
  a46 := Tryz.isAgg91
  z46 := Tryz.sizeOf91
  v46 := Tryz.zeroValue91
  t51 := Tryz.underlying128
  a51 := Tryz.isAgg128
  z51 := Tryz.sizeOf128
  v51 := Tryz.zeroValue128
  t146 := Tryz.underlying131
  a146 := Tryz.isAgg131
  z146 := Tryz.sizeOf131
  v146 := Tryz.zeroValue131
  g1 := by kernel_rfl
  i3 := by kernel_rfl
  i4 := by kernel_rfl
  i5 := by kernel_rfl
  i9 := by kernel_rfl
  i46 := by kernel_rfl
  i51 := by kernel_rfl
  i146 := by kernel_rfl
  m1 := by kernel_rfl
  s1_3 := fun w h => Go.Proofs.cell_of_shapedOpen_int (zero := #[.int .i64 0]) (t := 3) h (of_decide_eq_true (by kernel_rfl)) (by kernel_rfl) rfl (by kernel_rfl) (by kernel_rfl) Tryz.underlying3 }
open Go.RowKit Go.Lib in
theorem Tryz.stringslite_Index_shaped (s sub : ByteArray) (w : World) (h : w.ShapedOpen Tryz.prog) (hs : s.size < 4294967281) :
    Calls Tryz.prog 53 #[.string s, .string sub] w fun e w' => e = .returned (.int .i64 (Lib.index s.data.toList sub.data.toList)) ∧ w' = w := Any.stringslite_Index_shaped Tryz.laysM219 s sub w h hs
def Tryz.laysM143_ren : Go.Shelf.Ren := ⟨fun | 143 => 102 | 219 => 53 | 217 => 76 | 225 => 77 | 224 => 78 | 267 => 79 | 266 => 92 | 314 => 93 | n => n, fun | 9 => 9 | 3 => 3 | 4 => 4 | 5 => 5 | 46 => 91 | 146 => 131 | 51 => 128 | n => n, fun | 1 => 0 | n => n⟩
theorem Tryz.laysM143 : Go.Proofs.LaysM.n143 Tryz.prog Tryz.laysM143_ren := {
  mixed := by kernel_rfl
  f143 := Tryz.func102.trans (congrArg some (by kernel_rfl))
  f217 := Tryz.func76.trans (congrArg some (by kernel_rfl))
  f219 := Tryz.func53.trans (congrArg some (by kernel_rfl))
  f224 := Tryz.func78.trans (congrArg some (by kernel_rfl))
  f225 := Tryz.func77.trans (congrArg some (by kernel_rfl))
  f266 := Tryz.func92.trans (congrArg some (by kernel_rfl))
  f267 := Tryz.func79.trans (congrArg some (by kernel_rfl))
  f314 := Tryz.func93.trans (congrArg some (by kernel_rfl))
  t3 := Tryz.underlying3
  a3 := Tryz.isAgg3
  z3 := Tryz.sizeOf3
  v3 := Tryz.zeroValue3
  t4 := Tryz.underlying4
  a4 := Tryz.isAgg4
  z4 := Tryz.sizeOf4
  v4 := Tryz.zeroValue4
  t5 := Tryz.underlying5
  a5 := Tryz.isAgg5
  z5 := Tryz.sizeOf5
  v5 := Tryz.zeroValue5
  t9 := Tryz.underlying9
  a9 := Tryz.isAgg9
  z9 := Tryz.sizeOf9
  v9 := Tryz.zeroValue9
  t46 := Tryz.underlying91
  a46 := Tryz.isAgg91
  z46 := Tryz.sizeOf91
  v46 := Tryz.zeroValue91
  t51 := Tryz.underlying128
  a51 := Tryz.isAgg128
  z51 := Tryz.sizeOf128
  v51 := Tryz.zeroValue128
  t146 := Tryz.underlying131
  a146 := Tryz.isAgg131
  z146 := Tryz.sizeOf131
  v146 := Tryz.zeroValue131
  g1 := by kernel_rfl
  i3 := by kernel_rfl
  i4 := by kernel_rfl
  i5 := by kernel_rfl
  i9 := by kernel_rfl
  i46 := by kernel_rfl
  i51 := by kernel_rfl
  i146 := by kernel_rfl
  m1 := by kernel_rfl
  s1_3 := fun w h => Go.Proofs.cell_of_shapedOpen_int (zero := #[.int .i64 0]) (t := 3) h (of_decide_eq_true (by kernel_rfl)) (by kernel_rfl) rfl (by kernel_rfl) (by kernel_rfl) Tryz.underlying3 }
open Go.RowKit Go.Lib in
theorem Tryz.strings_Index_shaped (s sub : ByteArray) (w : World) (h : w.ShapedOpen Tryz.prog) (hs : s.size < 4294967281) :
    Calls Tryz.prog 102 #[.string s, .string sub] w fun e w' => e = .returned (.int .i64 (Lib.index s.data.toList sub.data.toList)) ∧ w' = w := Any.strings_Index_shaped Tryz.laysM143 s sub w h hs
def Tryz.laysM220_ren : Go.Shelf.Ren := ⟨fun | 220 => 35 | 219 => 53 | 217 => 76 | 225 => 77 | 224 => 78 | 267 => 79 | 266 => 92 | 314 => 93 | n => n, fun | 9 => 9 | 4 => 4 | 3 => 3 | 5 => 5 | 46 => 91 | 146 => 131 | 51 => 128 | n => n, fun | 1 => 0 | n => n⟩
theorem Tryz.laysM220 : Go.Proofs.LaysM.n220 Tryz.prog Tryz.laysM220_ren := {
  mixed := by kernel_rfl
  f217 := Tryz.func76.trans (congrArg some (by kernel_rfl))
  f219 := Tryz.func53.trans (congrArg some (by kernel_rfl))
  f220 := Tryz.func35.trans (congrArg some (by kernel_rfl))
  f224 := Tryz.func78.trans (congrArg some (by kernel_rfl))
  f225 := Tryz.func77.trans (congrArg some (by kernel_rfl))
  f266 := Tryz.func92.trans (congrArg some (by kernel_rfl))
  f267 := Tryz.func79.trans (congrArg some (by kernel_rfl))
  f314 := Tryz.func93.trans (congrArg some (by kernel_rfl))
  t3 := Tryz.underlying3
  a3 := Tryz.isAgg3
  z3 := Tryz.sizeOf3
  v3 := Tryz.zeroValue3
  t4 := Tryz.underlying4
  a4 := Tryz.isAgg4
  z4 := Tryz.sizeOf4
  v4 := Tryz.zeroValue4
  t5 := Tryz.underlying5
  a5 := Tryz.isAgg5
  z5 := Tryz.sizeOf5
  v5 := Tryz.zeroValue5
  t9 := Tryz.underlying9
  a9 := Tryz.isAgg9
  z9 := Tryz.sizeOf9
  v9 := Tryz.zeroValue9
  t46 := Tryz.underlying91
  a46 := Tryz.isAgg91
  z46 := Tryz.sizeOf91
  v46 := Tryz.zeroValue91
  t51 := Tryz.underlying128
  a51 := Tryz.isAgg128
  z51 := Tryz.sizeOf128
  v51 := Tryz.zeroValue128
  t146 := Tryz.underlying131
  a146 := Tryz.isAgg131
  z146 := Tryz.sizeOf131
  v146 := Tryz.zeroValue131
  g1 := by kernel_rfl
  i3 := by kernel_rfl
  i4 := by kernel_rfl
  i5 := by kernel_rfl
  i9 := by kernel_rfl
  i46 := by kernel_rfl
  i51 := by kernel_rfl
  i146 := by kernel_rfl
  m1 := by kernel_rfl
  s1_3 := fun w h => Go.Proofs.cell_of_shapedOpen_int (zero := #[.int .i64 0]) (t := 3) h (of_decide_eq_true (by kernel_rfl)) (by kernel_rfl) rfl (by kernel_rfl) (by kernel_rfl) Tryz.underlying3 }
open Go.RowKit Go.Lib in
theorem Tryz.stringslite_Cut_shaped (s sep : ByteArray) (w : World) (h : w.ShapedOpen Tryz.prog) (hs : s.size < 4294967281) :
    Calls Tryz.prog 35 #[.string s, .string sep] w fun e w' => e = .returned (.tuple #[.string ⟨(Lib.cut s.data.toList sep.data.toList).1.toArray⟩, .string ⟨(Lib.cut s.data.toList sep.data.toList).2.1.toArray⟩, .bool (Lib.cut s.data.toList sep.data.toList).2.2]) ∧ ∃ n, w' = w.drewN n := Any.stringslite_Cut_shaped Tryz.laysM220 s sep w h hs
def Tryz.laysM145_ren : Go.Shelf.Ren := ⟨fun | 145 => 18 | 220 => 35 | 219 => 53 | 217 => 76 | 225 => 77 | 224 => 78 | 267 => 79 | 266 => 92 | 314 => 93 | n => n, fun | 9 => 9 | 4 => 4 | 59 => 54 | 3 => 3 | 5 => 5 | 46 => 91 | 146 => 131 | 51 => 128 | n => n, fun | 1 => 0 | n => n⟩
theorem Tryz.laysM145 : Go.Proofs.LaysM.n145 Tryz.prog Tryz.laysM145_ren := {
  mixed := by kernel_rfl
  f145 := Tryz.func18.trans (congrArg some (by kernel_rfl))
  f217 := Tryz.func76.trans (congrArg some (by kernel_rfl))
  f219 := Tryz.func53.trans (congrArg some (by kernel_rfl))
  f220 := Tryz.func35.trans (congrArg some (by kernel_rfl))
  f224 := Tryz.func78.trans (congrArg some (by kernel_rfl))
  f225 := Tryz.func77.trans (congrArg some (by kernel_rfl))
  f266 := Tryz.func92.trans (congrArg some (by kernel_rfl))
  f267 := Tryz.func79.trans (congrArg some (by kernel_rfl))
  f314 := Tryz.func93.trans (congrArg some (by kernel_rfl))
  t3 := Tryz.underlying3
  a3 := Tryz.isAgg3
  z3 := Tryz.sizeOf3
  v3 := Tryz.zeroValue3
  t4 := Tryz.underlying4
  a4 := Tryz.isAgg4
  z4 := Tryz.sizeOf4
  v4 := Tryz.zeroValue4
  t5 := Tryz.underlying5
  a5 := Tryz.isAgg5
  z5 := Tryz.sizeOf5
  v5 := Tryz.zeroValue5
  t9 := Tryz.underlying9
  a9 := Tryz.isAgg9
  z9 := Tryz.sizeOf9
  v9 := Tryz.zeroValue9
  t46 := Tryz.underlying91
  a46 := Tryz.isAgg91
  z46 := Tryz.sizeOf91
  v46 := Tryz.zeroValue91
  t51 := Tryz.underlying128
  a51 := Tryz.isAgg128
  z51 := Tryz.sizeOf128
  v51 := Tryz.zeroValue128
  t59 := Tryz.underlying54
  a59 := Tryz.isAgg54
  z59 := Tryz.sizeOf54
  v59 := Tryz.zeroValue54
  t146 := Tryz.underlying131
  a146 := Tryz.isAgg131
  z146 := Tryz.sizeOf131
  v146 := Tryz.zeroValue131
  g1 := by kernel_rfl
  i3 := by kernel_rfl
  i4 := by kernel_rfl
  i5 := by kernel_rfl
  i9 := by kernel_rfl
  i46 := by kernel_rfl
  i51 := by kernel_rfl
  i59 := by kernel_rfl
  i146 := by kernel_rfl
  m1 := by kernel_rfl
  s1_3 := fun w h => Go.Proofs.cell_of_shapedOpen_int (zero := #[.int .i64 0]) (t := 3) h (of_decide_eq_true (by kernel_rfl)) (by kernel_rfl) rfl (by kernel_rfl) (by kernel_rfl) Tryz.underlying3 }
open Go.RowKit Go.Lib in
theorem Tryz.strings_Cut_shaped (s sep : ByteArray) (w : World) (h : w.ShapedOpen Tryz.prog) (hs : s.size < 4294967281) :
    Calls Tryz.prog 18 #[.string s, .string sep] w fun e w' => e = .returned (.tuple #[.string ⟨(Lib.cut s.data.toList sep.data.toList).1.toArray⟩, .string ⟨(Lib.cut s.data.toList sep.data.toList).2.1.toArray⟩, .bool (Lib.cut s.data.toList sep.data.toList).2.2]) ∧ ∃ n, w' = w.drewN n := Any.strings_Cut_shaped Tryz.laysM145 s sep w h hs
def Tryz.laysM138_ren : Go.Shelf.Ren := ⟨fun | 138 => 101 | 195 => 103 | 218 => 105 | 143 => 102 | 219 => 53 | 217 => 76 | 225 => 77 | 224 => 78 | 267 => 79 | 266 => 92 | 314 => 93 | n => n, fun | 9 => 9 | 3 => 3 | 4 => 4 | 5 => 5 | 0 => 0 | 46 => 91 | 146 => 131 | 51 => 128 | n => n, fun | 1 => 0 | n => n⟩
theorem Tryz.laysM138 : Go.Proofs.LaysM.n138 Tryz.prog Tryz.laysM138_ren := {
  mixed := by kernel_rfl
  f138 := Tryz.func101.trans (congrArg some (by kernel_rfl))
  f143 := Tryz.func102.trans (congrArg some (by kernel_rfl))
  f195 := Tryz.func103.trans (congrArg some (by kernel_rfl))
  f217 := Tryz.func76.trans (congrArg some (by kernel_rfl))
  f218 := Tryz.func105.trans (congrArg some (by kernel_rfl))
  f219 := Tryz.func53.trans (congrArg some (by kernel_rfl))
  f224 := Tryz.func78.trans (congrArg some (by kernel_rfl))
  f225 := Tryz.func77.trans (congrArg some (by kernel_rfl))
  f266 := Tryz.func92.trans (congrArg some (by kernel_rfl))
  f267 := Tryz.func79.trans (congrArg some (by kernel_rfl))
  f314 := Tryz.func93.trans (congrArg some (by kernel_rfl))
  t0 := Tryz.underlying0
  a0 := Tryz.isAgg0
  z0 := Tryz.sizeOf0
  v0 := Tryz.zeroValue0
  t3 := Tryz.underlying3
  a3 := Tryz.isAgg3
  z3 := Tryz.sizeOf3
  v3 := Tryz.zeroValue3
  t4 := Tryz.underlying4
  a4 := Tryz.isAgg4
  z4 := Tryz.sizeOf4
  v4 := Tryz.zeroValue4
  t5 := Tryz.underlying5
  a5 := Tryz.isAgg5
  z5 := Tryz.sizeOf5
  v5 := Tryz.zeroValue5
  t9 := Tryz.underlying9
  a9 := Tryz.isAgg9
  z9 := Tryz.sizeOf9
  v9 := Tryz.zeroValue9
  t46 := Tryz.underlying91
  a46 := Tryz.isAgg91
  z46 := Tryz.sizeOf91
  v46 := Tryz.zeroValue91
  t51 := Tryz.underlying128
  a51 := Tryz.isAgg128
  z51 := Tryz.sizeOf128
  v51 := Tryz.zeroValue128
  t146 := Tryz.underlying131
  a146 := Tryz.isAgg131
  z146 := Tryz.sizeOf131
  v146 := Tryz.zeroValue131
  g1 := by kernel_rfl
  i0 := by kernel_rfl
  i3 := by kernel_rfl
  i4 := by kernel_rfl
  i5 := by kernel_rfl
  i9 := by kernel_rfl
  i46 := by kernel_rfl
  i51 := by kernel_rfl
  i146 := by kernel_rfl
  m1 := by kernel_rfl
  s1_3 := fun w h => Go.Proofs.cell_of_shapedOpen_int (zero := #[.int .i64 0]) (t := 3) h (of_decide_eq_true (by kernel_rfl)) (by kernel_rfl) rfl (by kernel_rfl) (by kernel_rfl) Tryz.underlying3 }
open Go.RowKit Go.Lib in
theorem Tryz.strings_Count_shaped (s sub : ByteArray) (w : World) (h : w.ShapedOpen Tryz.prog) (hs : s.size < 4294967281) (h2 : 2 ≤ sub.size) :
    Calls Tryz.prog 101 #[.string s, .string sub] w fun e w' => e = .returned (.int .i64 (Lib.countB s sub)) ∧ w' = w := Any.strings_Count_shaped Tryz.laysM138 s sub w h hs h2
open Go.RowKit Go.Lib in
theorem Tryz.strings_Count_any (s sep : ByteArray) (m : Int) (w : World) (hs : s.size < 4294967281) (hm : w.cell? ⟨0, 0, none⟩ = some (.int .i64 m)) (h1 : 1 ≤ sep.size) :
    Calls Tryz.prog 101 #[.string s, .string sep] w fun e w' => e = .returned (.int .i64 (Lib.countB s sep)) ∧ w' = w := Any.strings_Count_any Tryz.lays138 s sep m w hs hm h1
def Tryz.lays221_ren : Go.Shelf.Ren := ⟨fun | 221 => 94 | 268 => 100 | 138 => 101 | 143 => 102 | 195 => 103 | 197 => 104 | 218 => 105 | 219 => 53 | 260 => 106 | 217 => 76 | 225 => 77 | 224 => 78 | 267 => 79 | 266 => 92 | 314 => 93 | n => n, fun | 9 => 9 | 3 => 3 | 31 => 70 | 4 => 4 | 0 => 0 | 105 => 140 | 21 => 21 | 5 => 5 | 46 => 91 | 119 => 142 | 139 => 145 | 138 => 144 | 146 => 131 | 51 => 128 | n => n, fun | 1 => 0 | 3 => 4 | 4 => 5 | n => n⟩
theorem Tryz.lays221 : Go.Proofs.Lays.n221 Tryz.prog Tryz.lays221_ren := {
  mixed := by kernel_rfl
  f138 := Tryz.func101.trans (congrArg some (by kernel_rfl))
  f143 := Tryz.func102.trans (congrArg some (by kernel_rfl))
  f195 := Tryz.func103.trans (congrArg some (by kernel_rfl))
  f197 := Tryz.func104.trans (congrArg some (by kernel_rfl))
  f217 := Tryz.func76.trans (congrArg some (by kernel_rfl))
  f218 := Tryz.func105.trans (congrArg some (by kernel_rfl))
  f219 := Tryz.func53.trans (congrArg some (by kernel_rfl))
  f221 := Tryz.func94.trans (congrArg some (by kernel_rfl))
  f224 := Tryz.func78.trans (congrArg some (by kernel_rfl))
  f225 := Tryz.func77.trans (congrArg some (by kernel_rfl))
  f260 := Tryz.func106.trans (congrArg some (by kernel_rfl))
  f266 := Tryz.func92.trans (congrArg some (by kernel_rfl))
  f267 := Tryz.func79.trans (congrArg some (by kernel_rfl))
  f268 := Tryz.func100.trans (congrArg some (by kernel_rfl))
  f314 := Tryz.func93.trans (congrArg some (by kernel_rfl))
  t0 := Tryz.underlying0
  a0 := Tryz.isAgg0
  z0 := Tryz.sizeOf0
  v0 := Tryz.zeroValue0
  t3 := Tryz.underlying3
  a3 := Tryz.isAgg3
  z3 := Tryz.sizeOf3
  v3 := Tryz.zeroValue3
  t4 := Tryz.underlying4
  a4 := Tryz.isAgg4
  z4 := Tryz.sizeOf4
  v4 := Tryz.zeroValue4
  t5 := Tryz.underlying5
  a5 := Tryz.isAgg5
  z5 := Tryz.sizeOf5
  v5 := Tryz.zeroValue5
  t9 := Tryz.underlying9
  a9 := Tryz.isAgg9
  z9 := Tryz.sizeOf9
  v9 := Tryz.zeroValue9
  t21 := Tryz.underlying21
  a21 := Tryz.isAgg21
  z21 := Tryz.sizeOf21
  v21 := Tryz.zeroValue21
  t31 := Tryz.underlying70
  a31 := Tryz.isAgg70
  z31 := Tryz.sizeOf70
  v31 := Tryz.zeroValue70
  t46 := Tryz.underlying91
  a46 := Tryz.isAgg91
  z46 := Tryz.sizeOf91
  v46 := Tryz.zeroValue91
  t51 := Tryz.underlying128
  a51 := Tryz.isAgg128
  z51 := Tryz.sizeOf128
  v51 := Tryz.zeroValue128
  t105 := Tryz.underlying140
  a105 := Tryz.isAgg140
  z105 := Tryz.sizeOf140
  v105 := Tryz.zeroValue140
  t119 := Tryz.underlying142
  a119 := Tryz.isAgg142
  z119 := Tryz.sizeOf142
  t138 := Tryz.underlying144
  a138 := Tryz.isAgg144
  z138 := Tryz.sizeOf144
  v138 := Tryz.zeroValue144
  t139 := Tryz.underlying145
  a139 := Tryz.isAgg145
  z139 := Tryz.sizeOf145
  v139 := Tryz.zeroValue145
  t146 := Tryz.underlying131
  a146 := Tryz.isAgg131
  z146 := Tryz.sizeOf131
  v146 := Tryz.zeroValue131
  g1 := by kernel_rfl
  g3 := by kernel_rfl
  g4 := by kernel_rfl }
open Go.RowKit Go.Lib in
theorem Tryz.strings_genSplit (s sep : ByteArray) (sv : Nat) (n : Int) (N : Nat) (m : Int) (w : World) (hs : s.size < 4294967281) (hm : w.cell? ⟨0, 0, none⟩ = some (.int .i64 m)) (h1 : 1 ≤ sep.size) (hsv : sv ≤ sep.size) (hn0 : n ≠ 0) (hn63 : n ≤ 9223372036854775807) (hN : (N : Int) = min (if n < 0 then (Lib.countB s sep : Int) + 1 else n) ((s.size : Int) + 1)) :
    Calls Tryz.prog 94 #[.string s, .string sep, .int .i64 sv, .int .i64 n] w fun e w' =>
      e = .returned (.slice (some ⟨w.heap.size, 0, none⟩) (Lib.splitB sep sv (N - 1) s).length N) ∧ w' = w.alloc (.cells (Lib.cellsOf (Lib.splitB sep sv (N - 1) s) N) 9) := Any.strings_genSplit Tryz.lays221 (by kernel_rfl) s sep sv n N m w hs hm h1 hsv hn0 hn63 hN
def Tryz.lays146_ren : Go.Shelf.Ren := ⟨fun | 146 => 80 | 221 => 94 | 268 => 100 | 138 => 101 | 143 => 102 | 195 => 103 | 197 => 104 | 218 => 105 | 219 => 53 | 260 => 106 | 217 => 76 | 225 => 77 | 224 => 78 | 267 => 79 | 266 => 92 | 314 => 93 | n => n, fun | 9 => 9 | 31 => 70 | 3 => 3 | 4 => 4 | 0 => 0 | 105 => 140 | 21 => 21 | 5 => 5 | 46 => 91 | 119 => 142 | 139 => 145 | 138 => 144 | 146 => 131 | 51 => 128 | n => n, fun | 1 => 0 | 3 => 4 | 4 => 5 | n => n⟩
theorem Tryz.lays146 : Go.Proofs.Lays.n146 Tryz.prog Tryz.lays146_ren := {
  mixed := by kernel_rfl
  f138 := Tryz.func101.trans (congrArg some (by kernel_rfl))
  f143 := Tryz.func102.trans (congrArg some (by kernel_rfl))
  f146 := Tryz.func80.trans (congrArg some (by kernel_rfl))
  f195 := Tryz.func103.trans (congrArg some (by kernel_rfl))
  f197 := Tryz.func104.trans (congrArg some (by kernel_rfl))
  f217 := Tryz.func76.trans (congrArg some (by kernel_rfl))
  f218 := Tryz.func105.trans (congrArg some (by kernel_rfl))
  f219 := Tryz.func53.trans (congrArg some (by kernel_rfl))
  f221 := Tryz.func94.trans (congrArg some (by kernel_rfl))
  f224 := Tryz.func78.trans (congrArg some (by kernel_rfl))
  f225 := Tryz.func77.trans (congrArg some (by kernel_rfl))
  f260 := Tryz.func106.trans (congrArg some (by kernel_rfl))
  f266 := Tryz.func92.trans (congrArg some (by kernel_rfl))
  f267 := Tryz.func79.trans (congrArg some (by kernel_rfl))
  f268 := Tryz.func100.trans (congrArg some (by kernel_rfl))
  f314 := Tryz.func93.trans (congrArg some (by kernel_rfl))
  t0 := Tryz.underlying0
  a0 := Tryz.isAgg0
  z0 := Tryz.sizeOf0
  v0 := Tryz.zeroValue0
  t3 := Tryz.underlying3
  a3 := Tryz.isAgg3
  z3 := Tryz.sizeOf3
  v3 := Tryz.zeroValue3
  t4 := Tryz.underlying4
  a4 := Tryz.isAgg4
  z4 := Tryz.sizeOf4
  v4 := Tryz.zeroValue4
  t5 := Tryz.underlying5
  a5 := Tryz.isAgg5
  z5 := Tryz.sizeOf5
  v5 := Tryz.zeroValue5
  t9 := Tryz.underlying9
  a9 := Tryz.isAgg9
  z9 := Tryz.sizeOf9
  v9 := Tryz.zeroValue9
  t21 := Tryz.underlying21
  a21 := Tryz.isAgg21
  z21 := Tryz.sizeOf21
  v21 := Tryz.zeroValue21
  t31 := Tryz.underlying70
  a31 := Tryz.isAgg70
  z31 := Tryz.sizeOf70
  v31 := Tryz.zeroValue70
  t46 := Tryz.underlying91
  a46 := Tryz.isAgg91
  z46 := Tryz.sizeOf91
  v46 := Tryz.zeroValue91
  t51 := Tryz.underlying128
  a51 := Tryz.isAgg128
  z51 := Tryz.sizeOf128
  v51 := Tryz.zeroValue128
  t105 := Tryz.underlying140
  a105 := Tryz.isAgg140
  z105 := Tryz.sizeOf140
  v105 := Tryz.zeroValue140
  t119 := Tryz.underlying142
  a119 := Tryz.isAgg142
  z119 := Tryz.sizeOf142
  t138 := Tryz.underlying144
  a138 := Tryz.isAgg144
  z138 := Tryz.sizeOf144
  v138 := Tryz.zeroValue144
  t139 := Tryz.underlying145
  a139 := Tryz.isAgg145
  z139 := Tryz.sizeOf145
  v139 := Tryz.zeroValue145
  t146 := Tryz.underlying131
  a146 := Tryz.isAgg131
  z146 := Tryz.sizeOf131
  v146 := Tryz.zeroValue131
  g1 := by kernel_rfl
  g3 := by kernel_rfl
  g4 := by kernel_rfl }
open Go.RowKit Go.Lib in
theorem Tryz.strings_Split (s sep : ByteArray) (m : Int) (w : World) (hs : s.size < 4294967281) (hm : w.cell? ⟨0, 0, none⟩ = some (.int .i64 m)) (h1 : 1 ≤ sep.size) :
    Calls Tryz.prog 80 #[.string s, .string sep] w fun e w' =>
      e = .returned (.slice (some ⟨w.heap.size, 0, none⟩) (Lib.countB s sep + 1) (Lib.countB s sep + 1)) ∧ w' = w.alloc (.cells ((Lib.splitB sep 0 (Lib.countB s sep) s).map Value.string).toArray 9) := Any.strings_Split Tryz.lays146 (by kernel_rfl) s sep m w hs hm h1
def Tryz.laysM146_ren : Go.Shelf.Ren := ⟨fun | 146 => 80 | 221 => 94 | 268 => 100 | 138 => 101 | 143 => 102 | 195 => 103 | 197 => 104 | 218 => 105 | 219 => 53 | 260 => 106 | 217 => 76 | 225 => 77 | 224 => 78 | 267 => 79 | 266 => 92 | 314 => 93 | n => n, fun | 9 => 9 | 31 => 70 | 3 => 3 | 4 => 4 | 0 => 0 | 105 => 140 | 21 => 21 | 5 => 5 | 46 => 91 | 119 => 142 | 139 => 145 | 138 => 144 | 146 => 131 | 51 => 128 | n => n, fun | 1 => 0 | 3 => 4 | 4 => 5 | n => n⟩
theorem Tryz.laysM146 : Go.Proofs.LaysM.n146 Tryz.prog Tryz.laysM146_ren := {
  mixed := by kernel_rfl
  f138 := Tryz.func101.trans (congrArg some (by kernel_rfl))
  f143 := Tryz.func102.trans (congrArg some (by kernel_rfl))
  f146 := Tryz.func80.trans (congrArg some (by kernel_rfl))
  f195 := Tryz.func103.trans (congrArg some (by kernel_rfl))
  f197 := Tryz.func104.trans (congrArg some (by kernel_rfl))
  f217 := Tryz.func76.trans (congrArg some (by kernel_rfl))
  f218 := Tryz.func105.trans (congrArg some (by kernel_rfl))
  f219 := Tryz.func53.trans (congrArg some (by kernel_rfl))
  f221 := Tryz.func94.trans (congrArg some (by kernel_rfl))
  f224 := Tryz.func78.trans (congrArg some (by kernel_rfl))
  f225 := Tryz.func77.trans (congrArg some (by kernel_rfl))
  f260 := Tryz.func106.trans (congrArg some (by kernel_rfl))
  f266 := Tryz.func92.trans (congrArg some (by kernel_rfl))
  f267 := Tryz.func79.trans (congrArg some (by kernel_rfl))
  f268 := Tryz.func100.trans (congrArg some (by kernel_rfl))
  f314 := Tryz.func93.trans (congrArg some (by kernel_rfl))
  t0 := Tryz.underlying0
  a0 := Tryz.isAgg0
  z0 := Tryz.sizeOf0
  v0 := Tryz.zeroValue0
  t3 := Tryz.underlying3
  a3 := Tryz.isAgg3
  z3 := Tryz.sizeOf3
  v3 := Tryz.zeroValue3
  t4 := Tryz.underlying4
  a4 := Tryz.isAgg4
  z4 := Tryz.sizeOf4
  v4 := Tryz.zeroValue4
  t5 := Tryz.underlying5
  a5 := Tryz.isAgg5
  z5 := Tryz.sizeOf5
  v5 := Tryz.zeroValue5
  t9 := Tryz.underlying9
  a9 := Tryz.isAgg9
  z9 := Tryz.sizeOf9
  v9 := Tryz.zeroValue9
  t21 := Tryz.underlying21
  a21 := Tryz.isAgg21
  z21 := Tryz.sizeOf21
  v21 := Tryz.zeroValue21
  t31 := Tryz.underlying70
  a31 := Tryz.isAgg70
  z31 := Tryz.sizeOf70
  v31 := Tryz.zeroValue70
  t46 := Tryz.underlying91
  a46 := Tryz.isAgg91
  z46 := Tryz.sizeOf91
  v46 := Tryz.zeroValue91
  t51 := Tryz.underlying128
  a51 := Tryz.isAgg128
  z51 := Tryz.sizeOf128
  v51 := Tryz.zeroValue128
  t105 := Tryz.underlying140
  a105 := Tryz.isAgg140
  z105 := Tryz.sizeOf140
  v105 := Tryz.zeroValue140
  t119 := Tryz.underlying142
  a119 := Tryz.isAgg142
  z119 := Tryz.sizeOf142
  t138 := Tryz.underlying144
  a138 := Tryz.isAgg144
  z138 := Tryz.sizeOf144
  v138 := Tryz.zeroValue144
  t139 := Tryz.underlying145
  a139 := Tryz.isAgg145
  z139 := Tryz.sizeOf145
  v139 := Tryz.zeroValue145
  t146 := Tryz.underlying131
  a146 := Tryz.isAgg131
  z146 := Tryz.sizeOf131
  v146 := Tryz.zeroValue131
  g1 := by kernel_rfl
  g3 := by kernel_rfl
  g4 := by kernel_rfl
  i0 := by kernel_rfl
  i3 := by kernel_rfl
  i4 := by kernel_rfl
  i5 := by kernel_rfl
  i9 := by kernel_rfl
  i21 := by kernel_rfl
  i31 := by kernel_rfl
  i46 := by kernel_rfl
  i51 := by kernel_rfl
  i105 := by kernel_rfl
  i138 := by kernel_rfl
  i139 := by kernel_rfl
  i146 := by kernel_rfl
  m1 := by kernel_rfl
  s1_3 := fun w h => Go.Proofs.cell_of_shapedOpen_int (zero := #[.int .i64 0]) (t := 3) h (of_decide_eq_true (by kernel_rfl)) (by kernel_rfl) rfl (by kernel_rfl) (by kernel_rfl) Tryz.underlying3
  m3 := by kernel_rfl
  m4 := by kernel_rfl }
open Go.RowKit Go.Lib in
theorem Tryz.strings_Split_shaped (s sep : ByteArray) (w : World) (h : w.ShapedOpen Tryz.prog) (hs : s.size < 4294967281) (h1 : 1 ≤ sep.size) :
    Calls Tryz.prog 80 #[.string s, .string sep] w fun e w' =>
      e = .returned (.slice (some ⟨w.heap.size, 0, none⟩) (Lib.countB s sep + 1) (Lib.countB s sep + 1)) ∧ w' = w.alloc (.cells ((Lib.splitB sep 0 (Lib.countB s sep) s).map Value.string).toArray 9) := Any.strings_Split_shaped Tryz.laysM146 s sep w h hs h1
def Tryz.lays197_ren : Go.Shelf.Ren := ⟨fun | 197 => 104 | 260 => 106 | n => n, fun | 9 => 9 | 21 => 21 | 3 => 3 | 4 => 4 | 5 => 5 | 105 => 140 | 119 => 142 | 0 => 0 | 46 => 91 | 139 => 145 | 138 => 144 | n => n, fun | 3 => 4 | 4 => 5 | n => n⟩
theorem Tryz.lays197 : Go.Proofs.Lays.n197 Tryz.prog Tryz.lays197_ren := {
  mixed := by kernel_rfl
  f197 := Tryz.func104.trans (congrArg some (by kernel_rfl))
  f260 := Tryz.func106.trans (congrArg some (by kernel_rfl))
  t0 := Tryz.underlying0
  a0 := Tryz.isAgg0
  z0 := Tryz.sizeOf0
  v0 := Tryz.zeroValue0
  t3 := Tryz.underlying3
  a3 := Tryz.isAgg3
  z3 := Tryz.sizeOf3
  v3 := Tryz.zeroValue3
  t4 := Tryz.underlying4
  a4 := Tryz.isAgg4
  z4 := Tryz.sizeOf4
  v4 := Tryz.zeroValue4
  t5 := Tryz.underlying5
  a5 := Tryz.isAgg5
  z5 := Tryz.sizeOf5
  v5 := Tryz.zeroValue5
  t9 := Tryz.underlying9
  a9 := Tryz.isAgg9
  z9 := Tryz.sizeOf9
  v9 := Tryz.zeroValue9
  t21 := Tryz.underlying21
  a21 := Tryz.isAgg21
  z21 := Tryz.sizeOf21
  v21 := Tryz.zeroValue21
  t46 := Tryz.underlying91
  a46 := Tryz.isAgg91
  z46 := Tryz.sizeOf91
  v46 := Tryz.zeroValue91
  t105 := Tryz.underlying140
  a105 := Tryz.isAgg140
  z105 := Tryz.sizeOf140
  v105 := Tryz.zeroValue140
  t119 := Tryz.underlying142
  a119 := Tryz.isAgg142
  z119 := Tryz.sizeOf142
  t138 := Tryz.underlying144
  a138 := Tryz.isAgg144
  z138 := Tryz.sizeOf144
  v138 := Tryz.zeroValue144
  t139 := Tryz.underlying145
  a139 := Tryz.isAgg145
  z139 := Tryz.sizeOf145
  v139 := Tryz.zeroValue145
  g3 := by kernel_rfl
  g4 := by kernel_rfl }
open Go.RowKit Go.Lib in
theorem Tryz.utf8_DecodeRuneInString_ascii (s : ByteArray) (x : UInt8) (w : World) (h0 : s.data.toList[0]? = some x) (hx : x.toNat < 128) :
    Calls Tryz.prog 104 #[.string s] w fun e w' => e = .returned (.tuple #[.int .i32 x.toNat, .int .i64 1]) ∧ w' = w := Any.utf8_DecodeRuneInString_ascii Tryz.lays197 s x w h0 hx
open Go.RowKit Go.Lib in
theorem Tryz.utf8_RuneCountInString_ascii (s : ByteArray) (w : World) (hs : s.size < 4294967281) (hascii : ∀ (j : Nat) b, s.data.toList[j]? = some b → b.toNat < 128) :
    Calls Tryz.prog 103 #[.string s] w fun e w' => e = .returned (.int .i64 s.size) ∧ w' = w.iter s s.size := Any.utf8_RuneCountInString_ascii Tryz.lays195 s w hs hascii
def Tryz.lays268_ren : Go.Shelf.Ren := ⟨fun | 268 => 100 | 195 => 103 | 197 => 104 | 260 => 106 | n => n, fun | 9 => 9 | 3 => 3 | 31 => 70 | 4 => 4 | 105 => 140 | 21 => 21 | 0 => 0 | 5 => 5 | 119 => 142 | 46 => 91 | 139 => 145 | 138 => 144 | n => n, fun | 3 => 4 | 4 => 5 | n => n⟩
theorem Tryz.lays268 : Go.Proofs.Lays.n268 Tryz.prog Tryz.lays268_ren := {
  mixed := by kernel_rfl
  f195 := Tryz.func103.trans (congrArg some (by kernel_rfl))
  f197 := Tryz.func104.trans (congrArg some (by kernel_rfl))
  f260 := Tryz.func106.trans (congrArg some (by kernel_rfl))
  f268 := Tryz.func100.trans (congrArg some (by kernel_rfl))
  t0 := Tryz.underlying0
  a0 := Tryz.isAgg0
  z0 := Tryz.sizeOf0
  v0 := Tryz.zeroValue0
  t3 := Tryz.underlying3
  a3 := Tryz.isAgg3
  z3 := Tryz.sizeOf3
  v3 := Tryz.zeroValue3
  t4 := Tryz.underlying4
  a4 := Tryz.isAgg4
  z4 := Tryz.sizeOf4
  v4 := Tryz.zeroValue4
  t5 := Tryz.underlying5
  a5 := Tryz.isAgg5
  z5 := Tryz.sizeOf5
  v5 := Tryz.zeroValue5
  t9 := Tryz.underlying9
  a9 := Tryz.isAgg9
  z9 := Tryz.sizeOf9
  v9 := Tryz.zeroValue9
  t21 := Tryz.underlying21
  a21 := Tryz.isAgg21
  z21 := Tryz.sizeOf21
  v21 := Tryz.zeroValue21
  t31 := Tryz.underlying70
  a31 := Tryz.isAgg70
  z31 := Tryz.sizeOf70
  v31 := Tryz.zeroValue70
  t46 := Tryz.underlying91
  a46 := Tryz.isAgg91
  z46 := Tryz.sizeOf91
  v46 := Tryz.zeroValue91
  t105 := Tryz.underlying140
  a105 := Tryz.isAgg140
  z105 := Tryz.sizeOf140
  v105 := Tryz.zeroValue140
  t119 := Tryz.underlying142
  a119 := Tryz.isAgg142
  z119 := Tryz.sizeOf142
  t138 := Tryz.underlying144
  a138 := Tryz.isAgg144
  z138 := Tryz.sizeOf144
  v138 := Tryz.zeroValue144
  t139 := Tryz.underlying145
  a139 := Tryz.isAgg145
  z139 := Tryz.sizeOf145
  v139 := Tryz.zeroValue145
  g3 := by kernel_rfl
  g4 := by kernel_rfl }
open Go.RowKit Go.Lib in
theorem Tryz.strings_explode_all (s : ByteArray) (n : Int) (w : World) (hn : n < 0) (hs : s.size < 4294967281) (hascii : ∀ (j : Nat) b, s.data.toList[j]? = some b → b.toNat < 128) :
    Calls Tryz.prog 100 #[.string s, .int .i64 n] w fun e w' =>
      e = .returned (.slice (some ⟨(w.iter s s.size).heap.size, 0, none⟩) s.size s.size) ∧ w' = (w.iter s s.size).alloc (.cells ((Lib.charsB s).map Value.string).toArray 9) := Any.strings_explode_all Tryz.lays268 (by kernel_rfl) s n w hn hs hascii
open Go.RowKit Go.Lib in
theorem Tryz.strings_genSplit_chars (s sep : ByteArray) (sv n : Int) (w : World) (h0 : sep.size = 0) (hn : n < 0) (hs : s.size < 4294967281) (hascii : ∀ (j : Nat) b, s.data.toList[j]? = some b → b.toNat < 128) :
    Calls Tryz.prog 94 #[.string s, .string sep, .int .i64 sv, .int .i64 n] w fun e w' =>
      e = .returned (.slice (some ⟨(w.iter s s.size).heap.size, 0, none⟩) s.size s.size) ∧ w' = (w.iter s s.size).alloc (.cells ((Lib.charsB s).map Value.string).toArray 9) := Any.strings_genSplit_chars Tryz.lays221 (by kernel_rfl) s sep sv n w h0 hn hs hascii
open Go.RowKit Go.Lib in
theorem Tryz.strings_Split_chars (s sep : ByteArray) (w : World) (h0 : sep.size = 0) (hs : s.size < 4294967281) (hascii : ∀ (j : Nat) b, s.data.toList[j]? = some b → b.toNat < 128) :
    Calls Tryz.prog 80 #[.string s, .string sep] w fun e w' =>
      e = .returned (.slice (some ⟨(w.iter s s.size).heap.size, 0, none⟩) s.size s.size) ∧ w' = (w.iter s s.size).alloc (.cells ((Lib.charsB s).map Value.string).toArray 9) := Any.strings_Split_chars Tryz.lays146 (by kernel_rfl) s sep w h0 hs hascii
def Tryz.lays260_ren : Go.Shelf.Ren := ⟨fun | 260 => 106 | n => n, fun | 9 => 9 | 21 => 21 | 3 => 3 | 4 => 4 | 5 => 5 | 119 => 142 | 0 => 0 | 46 => 91 | 139 => 145 | 138 => 144 | n => n, fun | 3 => 4 | 4 => 5 | n => n⟩
theorem Tryz.lays260 : Go.Proofs.Lays.n260 Tryz.prog Tryz.lays260_ren := {
  mixed := by kernel_rfl
  f260 := Tryz.func106.trans (congrArg some (by kernel_rfl))
  t0 := Tryz.underlying0
  a0 := Tryz.isAgg0
  z0 := Tryz.sizeOf0
  v0 := Tryz.zeroValue0
  t3 := Tryz.underlying3
  a3 := Tryz.isAgg3
  z3 := Tryz.sizeOf3
  v3 := Tryz.zeroValue3
  t4 := Tryz.underlying4
  a4 := Tryz.isAgg4
  z4 := Tryz.sizeOf4
  v4 := Tryz.zeroValue4
  t5 := Tryz.underlying5
  a5 := Tryz.isAgg5
  z5 := Tryz.sizeOf5
  v5 := Tryz.zeroValue5
  t9 := Tryz.underlying9
  a9 := Tryz.isAgg9
  z9 := Tryz.sizeOf9
  v9 := Tryz.zeroValue9
  t21 := Tryz.underlying21
  a21 := Tryz.isAgg21
  z21 := Tryz.sizeOf21
  v21 := Tryz.zeroValue21
  t46 := Tryz.underlying91
  a46 := Tryz.isAgg91
  z46 := Tryz.sizeOf91
  v46 := Tryz.zeroValue91
  t119 := Tryz.underlying142
  a119 := Tryz.isAgg142
  z119 := Tryz.sizeOf142
  t138 := Tryz.underlying144
  a138 := Tryz.isAgg144
  z138 := Tryz.sizeOf144
  v138 := Tryz.zeroValue144
  t139 := Tryz.underlying145
  a139 := Tryz.isAgg145
  z139 := Tryz.sizeOf145
  v139 := Tryz.zeroValue145
  g3 := by kernel_rfl
  g4 := by kernel_rfl }
open Go.RowKit Go.Lib in
theorem Tryz.utf8_decodeRuneInStringSlow (s : ByteArray) (w : World) (hT : Lib.Utf8Tabs 4 5 w) :
    Calls Tryz.prog 106 #[.string s] w fun e w' => e = .returned (.tuple #[.int .i32 (Lib.decodeGo s).1, .int .i64 (Lib.decodeGo s).2]) ∧ Below w.heap.size w w' := Any.utf8_decodeRuneInStringSlow Tryz.lays260 s w hT
open Go.RowKit Go.Lib in
theorem Tryz.utf8_DecodeRuneInString (s : ByteArray) (w : World) (hT : Lib.Utf8Tabs 4 5 w) :
    Calls Tryz.prog 104 #[.string s] w fun e w' => e = .returned (.tuple #[.int .i32 (Lib.decodeGo s).1, .int .i64 (Lib.decodeGo s).2]) ∧ Below w.heap.size w w' := Any.utf8_DecodeRuneInString Tryz.lays197 s w hT
end Go.Proofs

/- Go's library, as contracts. -/
namespace Go.Proofs.YtldkgicmfbofiaaGreatDoor
open Go.Eng Go.Kb
open Go.RowKit

class Tabs (w : World) : Prop where
  pow : Lib.TabIs Tryz.prog w "internal/strconv.uint64pow10" .u64 Lib.pow10Tab
  len : ∃ m, w.cell? ⟨0, 0, none⟩ = some (.int .i64 m)
theorem Tabs.at {w0 w : World} {L : List Ent} (t : Tabs w0) (h : Mem w0 L w) : Tabs w := by
  obtain ⟨m, hm⟩ := t.len
  have h0 : (0 : Nat) < w0.heap.size := by
    rcases Nat.lt_or_ge 0 w0.heap.size with q | q
    · exact q
    · rw [World.cell?] at hm
      rw [Array.getElem?_eq_none (show w0.heap.size ≤ (⟨0, 0, none⟩ : Addr).block by exact q)] at hm
      simp at hm
  refine ⟨?_, m, ?_⟩
  · have hv := t.pow
    unfold Lib.TabIs World.var? at hv ⊢
    cases hg : Tryz.prog.globalNamed "internal/strconv.uint64pow10" with
    | none => rw [hg] at hv; cases hv
    | some g =>
    simp only [hg, Option.bind_some] at hv ⊢
    have hgB : g < w0.heap.size := by
      rcases Nat.lt_or_ge g w0.heap.size with q | q
      · exact q
      · rw [Array.getElem?_eq_none q] at hv; cases hv
    rw [h.below.block g hgB]; exact hv
  · rw [h.below.cell h0]; exact hm
theorem itoa_nat (n : Nat) : Lib.itoa (n : Int) = dec n := by
  rw [Lib.itoa, if_neg (by omega), Int.toNat_natCast]; rfl
theorem lib_itoa {w0 : World} {L : List Ent} [t : Tabs w0] (n : Nat) (h : n < 9223372036854775808) (w : World) (hw : Mem w0 L w) : Calls Tryz.prog 17 #[.int .i64 (n : Nat)] w fun e w' => e = .returned (.string ⟨(dec n).toArray⟩) ∧ Mem w [] w' := by
  refine (Tryz.strconv_Itoa (n : Int) (by omega) (by omega) w (t.at hw).pow).mono ?_
  rintro e w' ⟨he, k, os, rfl⟩
  rw [itoa_nat] at he
  exact ⟨he, .of_below ⟨rfl, rfl, rfl, by show w.heap.size ≤ (w.heap ++ os).size; rw [Array.size_append]; omega, fun j hj => by show (w.heap ++ os)[j]? = w.heap[j]?; exact Array.getElem?_append_left hj⟩⟩
instance {w0 : World} {L : List Ent} [t : Tabs w0] (n : Nat) : FnQ Tryz.prog 17 w0 L [.int .i64 (n : Nat)] (.string ⟨(dec n).toArray⟩) (n < 9223372036854775808) := ⟨fun h w hw => lib_itoa n h w hw⟩
instance (priority := low) {w0 : World} {L : List Ent} [t : Tabs w0] (z : Int) : FnQ Tryz.prog 17 w0 L [.int .i64 z] (.string ⟨(dec z.toNat).toArray⟩) (0 ≤ z ∧ z < 9223372036854775808) := ⟨fun h w hw => by
  have := lib_itoa z.toNat (by omega) w hw
  rwa [Int.toNat_of_nonneg h.1] at this⟩
instance {w0 : World} {L : List Ent} {s : Sv} {xs : List Txt} [q : Hd w0 L s txc 1 xs] (sep : Txt) : FnQ Tryz.prog 33 w0 L [s.val, .string ⟨sep.toArray⟩] (.string ⟨(joinT sep xs).toArray⟩) (xs ≠ [] ∧ (joinT sep xs).length ≤ 140737488355328) := ⟨fun hp w hw => by
  have r := q.h w hw
  have hx : 0 < xs.length := List.length_pos_iff.2 hp.1
  have hsp := r.ok.sp (by have := r.len; have := r.ok.le; omega)
  have e1 : (xs.map fun x => (⟨x.toArray⟩ : ByteArray)).map (·.data.toList) = xs := by
    rw [List.map_map]
    exact (List.map_congr_left (fun x _ => by simp)).trans (List.map_id xs)
  have el : (xs.map fun x => (⟨x.toArray⟩ : ByteArray)).length = xs.length := by simp
  have hc : ∀ (j : Nat) x, (xs.map fun x => (⟨x.toArray⟩ : ByteArray))[j]? = some x → w.cell? ⟨s.b, s.o + j, none⟩ = some (.string x) := by
    intro j x hj
    rw [List.getElem?_map] at hj
    obtain ⟨y, hy, rfl⟩ := Option.map_eq_some_iff.1 hj
    have := r.row j y hy 0 (by decide)
    simp only [Nat.mul_one, Nat.add_zero] at this
    rw [cell_hp, this]; rfl
  have hb : s.b < w.heap.size := by
    rcases Nat.lt_or_ge s.b w.heap.size with h | h
    · exact h
    · have := hc 0 _ (by rw [List.getElem?_map, List.getElem?_eq_getElem hx]; rfl)
      rw [World.cell?, Array.getElem?_eq_none (show w.heap.size ≤ (⟨s.b, s.o + 0, none⟩ : Addr).block by exact h)] at this
      simp at this
  have hj := Tryz.strings_Join s.b s.o s.cap (xs.map fun x => (⟨x.toArray⟩ : ByteArray)) ⟨sep.toArray⟩ w hc hb (by rw [el]; exact r.bd) (by rw [el]; have := r.len; have := r.ok.le; omega) (by rw [e1]; exact hp.2)
  rw [el] at hj
  rw [Sv.val_some (r.some hx), hsp, r.len]
  refine hj.mono ?_
  rintro e w' ⟨he, hb'⟩
  rw [e1] at he
  exact ⟨he, .of_below hb'⟩⟩
instance {w0 : World} {L : List Ent} [t : Tabs w0] (s : Txt) (c : UInt8) : FnQ Tryz.prog 18 w0 L [.string ⟨s.toArray⟩, .string ⟨[c].toArray⟩] (.tuple #[.string ⟨(cutL c s).1.toArray⟩, .string ⟨(cutL c s).2.1.toArray⟩, .bool (cutL c s).2.2]) (s.length < 4294967281) := ⟨fun h w hw => by
  obtain ⟨m, hm⟩ := (t.at hw).len
  refine (Tryz.strings_Cut ⟨s.toArray⟩ ⟨[c].toArray⟩ m w (by rw [tx_size]; exact h) hm).mono ?_
  rintro e w' ⟨he, n, rfl⟩
  exact ⟨he, .of_below ⟨rfl, rfl, rfl, Nat.le_refl _, fun _ _ => rfl⟩⟩⟩
instance {w0 : World} {L : List Ent} (s : Txt) (c : UInt8) : FnQ Tryz.prog 81 w0 L [.string ⟨s.toArray⟩, .int .u8 (c.toNat : Nat)] (.int .i64 (Lib.indexByte s c)) True := ⟨fun _ w hw => by
  refine (Tryz.strings_IndexByte ⟨s.toArray⟩ c.toNat w).mono ?_
  rintro e w' ⟨he, rfl⟩
  have e1 : ((c.toNat : Int)).toNat.toUInt8 = c := by simp
  rw [e1] at he
  exact ⟨he, .init _⟩⟩
instance {w0 : World} {L : List Ent} [t : Tabs w0] (s : Txt) (c : UInt8) : FnC Tryz.prog 80 w0 L [.string ⟨s.toArray⟩, .string ⟨[c].toArray⟩] Nat (fun b => (⟨false, b, 0, (splitL c s).length, (splitL c s).length, none⟩ : Sv).val) (fun b => own txc 1 ⟨false, b, 0, (splitL c s).length, (splitL c s).length, none⟩ (splitL c s) :: L) (fun _ => True) (s.length < 4294967281) := ⟨fun h w hw => by
  obtain ⟨m, hm⟩ := (t.at hw).len
  have hs : (⟨s.toArray⟩ : ByteArray).size < 4294967281 := by rw [tx_size]; exact h
  have e0 : (Lib.splitB ⟨[c].toArray⟩ 0 (Lib.countB ⟨s.toArray⟩ ⟨[c].toArray⟩) ⟨s.toArray⟩).map (·.data.toList) = splitL c s := splitB_L c s.length ⟨s.toArray⟩ (by rw [tx_size]; exact Nat.le_refl _)
  have el : (splitL c s).length = Lib.countB ⟨s.toArray⟩ ⟨[c].toArray⟩ + 1 := by
    exact (splitB_length c ⟨s.toArray⟩).symm
  have hlen : (splitL c s).length ≤ 140737488355328 := by have := split_len c s; omega
  refine (Tryz.strings_Split ⟨s.toArray⟩ ⟨[c].toArray⟩ m w hs hm (Nat.le_refl 1)).mono ?_
  rintro e w' ⟨he, rfl⟩
  refine ⟨w.heap.size, by rw [he, el]; rfl, trivial, hw.call (E := [_]) (mem_new (enc := txc) (c := 1) (xs := splitL c s) rfl _ _ rfl (Nat.le_refl _) hlen ?_ fun i x hx j hj => ?_)⟩
  · have := congrArg List.length e0
    rw [List.length_map] at this
    simp [this]
  · obtain rfl : j = 0 := by omega
    rw [← e0, List.getElem?_map] at hx
    obtain ⟨y, hy, rfl⟩ := Option.map_eq_some_iff.1 hx
    simp only [Nat.mul_one, Nat.add_zero, List.getElem?_toArray, List.getElem?_map, hy, Option.map_some, txc]
    rw [← tx_of y]; rfl⟩

end Go.Proofs.YtldkgicmfbofiaaGreatDoor

/- '==' on structs and arrays of plain cells. -/
namespace Go.Eng

def kdOk : Nat → Value → Value → Prop
  | 0, .int k _, .int k' _ => k = k'
  | 1, .bool _, .bool _ => True
  | 2, .string _, .string _ => True
  | _, _, _ => False

def isAggV : Value → Bool
  | .agg _ => true
  | _ => false

def EqF (P : Program) (d : Nat) (t : TypeId) (isA : Bool) (ks : List Nat) : Prop :=
  ∀ (w : World) (x y : Value), isAggV x = isA → isAggV y = isA → x.cells.size = ks.length → y.cells.size = ks.length →
    (∀ (i k : Nat), ks[i]? = some k → ∃ u v, x.cells[i]? = some u ∧ y.cells[i]? = some v ∧ kdOk k u v) →
    ∃ r : Bool, (Op.equalIn d t x y).run P w = .ok r w ∧ (r = true ↔ ∀ i, i < ks.length → x.cells[i]? = y.cells[i]?)

section
variable {P : Program} {d : Nat} {t : TypeId}

theorem cells_one {x : Value} (h : isAggV x = false) : x.cells = #[x] := by
  cases x <;> simp_all [isAggV, Value.cells]

theorem eqF_int {q : IntKind} (hu : P.underlying t = some (.int q)) : EqF P (d + 1) t false [0] := fun w x y hx hy _ _ hk => by
  obtain ⟨u, v, h1, h2, h3⟩ := hk 0 0 rfl
  rw [cells_one hx] at h1 ⊢
  rw [cells_one hy] at h2 ⊢
  simp at h1 h2
  subst h1 h2
  cases x <;> cases y <;> simp only [kdOk] at h3
  subst h3
  exact ⟨_, run_equalIn_int w d t _ q _ _ hu, by simp⟩
theorem eqF_bool (hu : P.underlying t = some .bool) : EqF P (d + 1) t false [1] := fun w x y hx hy _ _ hk => by
  obtain ⟨u, v, h1, h2, h3⟩ := hk 0 1 rfl
  rw [cells_one hx] at h1 ⊢
  rw [cells_one hy] at h2 ⊢
  simp at h1 h2
  subst h1 h2
  cases x <;> cases y <;> simp only [kdOk] at h3
  exact ⟨_, run_equalIn_bool' w d t _ _ hu, by simp⟩

theorem part_cells {e : TypeId} {isA : Bool} {n : Nat} (hA : ∃ de, P.underlying e = some de ∧ isRowD de = isA) (hn : (P.info? e).map (·.size) = some n) (h1 : isA = false → n = 1)
    {xs : Array Value} {off : Nat} (hlt : off + n ≤ xs.size) (hp : ∀ i u, off ≤ i → i < off + n → xs[i]? = some u → isAggV u = false) (w : World) :
    ∃ a, (part e xs off).run P w = .ok a w ∧ isAggV a = isA ∧ a.cells.size = n ∧ ∀ i, i < n → a.cells[i]? = xs[off + i]? := by
  obtain ⟨de, hu, hr⟩ := hA
  cases isA with
  | true =>
    refine ⟨.agg (xs.extract off (off + n)), ?_, rfl, by simp [Value.cells]; omega, fun i hi => ?_⟩
    · simp only [part, Sem.run_bind, run_isAgg' w hu, hr, Result.andThen_ok, if_true, run_sizeOf' w hn, Sem.run_pure]
    · simp [Value.cells, Array.getElem?_extract]
      intro h; omega
  | false =>
    have := h1 rfl
    subst this
    have hx : xs[off]? = some xs[off] := by simp [show off < xs.size by omega]
    have hnA := hp off _ (Nat.le_refl _) (by omega) hx
    refine ⟨xs[off], ?_, hnA, by rw [cells_one hnA]; rfl, fun i hi => ?_⟩
    · simp only [part, Sem.run_bind, run_isAgg' w hu, hr, Result.andThen_ok, hx, Bool.false_eq_true, if_false, Sem.run_pure]
    · obtain rfl : i = 0 := by omega
      rw [cells_one hnA, Nat.add_zero, hx]; rfl

theorem kdOk_plain {k : Nat} {u v : Value} (h : kdOk k u v) : isAggV u = false ∧ isAggV v = false := by
  unfold kdOk at h
  split at h <;> simp_all [isAggV]

structure PartT (P : Program) (d : Nat) (e : TypeId) (isA : Bool) (ks : List Nat) : Prop where
  row : ∃ de, P.underlying e = some de ∧ isRowD de = isA
  size : (P.info? e).map (·.size) = some ks.length
  one : isA = false → ks.length = 1
  eq : EqF P d e isA ks

theorem eq_step {e : TypeId} {isA : Bool} {ks : List Nat} (he : PartT P d e isA ks) {xs ys : Array Value} {off : Nat} (hx : off + ks.length ≤ xs.size) (hy : off + ks.length ≤ ys.size)
    (hk : ∀ (i k : Nat), ks[i]? = some k → ∃ u v, xs[off + i]? = some u ∧ ys[off + i]? = some v ∧ kdOk k u v) (w : World) :
    ∃ a b r, (part e xs off).run P w = .ok a w ∧ (part e ys off).run P w = .ok b w ∧ (Op.equalIn d e a b).run P w = .ok r w ∧ (r = true ↔ ∀ i, i < ks.length → xs[off + i]? = ys[off + i]?) := by
  have plain : ∀ i, off ≤ i → i < off + ks.length → ∃ u v k, xs[i]? = some u ∧ ys[i]? = some v ∧ kdOk k u v := fun i h1 h2 => by
    obtain ⟨u, v, h3, h4, h5⟩ := hk (i - off) _ (List.getElem?_eq_getElem (by omega))
    rw [show off + (i - off) = i by omega] at h3 h4
    exact ⟨u, v, _, h3, h4, h5⟩
  obtain ⟨a, a1, a2, a3, a4⟩ := part_cells he.row he.size he.one hx (fun i u h1 h2 h3 => by
    obtain ⟨u', v, k, h4, h5, h6⟩ := plain i h1 h2
    rw [h4] at h3; cases h3; exact (kdOk_plain h6).1) w
  obtain ⟨b, b1, b2, b3, b4⟩ := part_cells he.row he.size he.one hy (fun i u h1 h2 h3 => by
    obtain ⟨u', v, k, h4, h5, h6⟩ := plain i h1 h2
    rw [h5] at h3; cases h3; exact (kdOk_plain h6).2) w
  obtain ⟨r, r1, r2⟩ := he.eq w a b a2 b2 a3 b3 (fun i k hik => by
    obtain ⟨u, v, h1, h2, h3⟩ := hk i k hik
    have hi : i < ks.length := (List.getElem?_eq_some_iff.1 hik).1
    exact ⟨u, v, by rw [a4 i hi]; exact h1, by rw [b4 i hi]; exact h2, h3⟩)
  refine ⟨a, b, r, a1, b1, r1, r2.trans ⟨fun h i hi => ?_, fun h i hi => ?_⟩⟩
  · rw [← a4 i hi, ← b4 i hi]; exact h i hi
  · rw [a4 i hi, b4 i hi]; exact h i hi

theorem run_eqItems' {e : TypeId} {isA : Bool} {ks : List Nat} (he : PartT P d e isA ks) {xs ys : Array Value} (w : World) : ∀ (is : List Nat),
    (∀ j ∈ is, j * ks.length + ks.length ≤ xs.size ∧ j * ks.length + ks.length ≤ ys.size ∧ ∀ (i k : Nat), ks[i]? = some k → ∃ u v, xs[j * ks.length + i]? = some u ∧ ys[j * ks.length + i]? = some v ∧ kdOk k u v) →
    ∃ r : Bool, (Op.eqItems d e ks.length xs ys is).run P w = .ok r w ∧ (r = true ↔ ∀ j ∈ is, ∀ i, i < ks.length → xs[j * ks.length + i]? = ys[j * ks.length + i]?)
  | [], _ => ⟨true, by simp [Op.eqItems], by simp⟩
  | j :: is, h => by
    obtain ⟨h1, h2, h3⟩ := h j (by simp)
    obtain ⟨a, b, r, p1, p2, p3, hiff⟩ := eq_step he h1 h2 h3 w
    obtain ⟨r', hr', hiff'⟩ := run_eqItems' he w is (fun j' hj' => h j' (by simp [hj']))
    simp only [Op.eqItems, Sem.run_bind, p1, p2, p3, Result.andThen_ok]
    cases r
    · refine ⟨false, by simp, ?_⟩
      simp only [Bool.false_eq_true, false_iff]
      intro e
      exact absurd (hiff.2 (e j (by simp))) (by simp)
    · refine ⟨r', by simpa using hr', ?_⟩
      rw [hiff']
      have := hiff.1 rfl
      constructor
      · intro e j' hj'
        rcases List.mem_cons.1 hj' with rfl | hj'
        · exact this
        · exact e j' hj'
      · intro e j' hj'; exact e j' (by simp [hj'])

theorem flat_get {ks : List Nat} : ∀ {n j i : Nat}, j < n → i < ks.length → (List.replicate n ks).flatten[j * ks.length + i]? = ks[i]?
  | 0, j, i, h, _ => by omega
  | n + 1, 0, i, _, hi => by
    rw [List.replicate_succ, List.flatten_cons, Nat.zero_mul, Nat.zero_add, List.getElem?_append_left hi]
  | n + 1, j + 1, i, h, hi => by
    rw [List.replicate_succ, List.flatten_cons, List.getElem?_append_right (by rw [Nat.add_mul]; omega), Nat.add_mul, show j * ks.length + 1 * ks.length + i - ks.length = j * ks.length + i by omega]
    exact flat_get (by omega) hi

theorem eqF_arr {e : TypeId} {n : Nat} {isA : Bool} {ks : List Nat} (hu : P.underlying t = some (.array n e)) (he : PartT P d e isA ks) : EqF P (d + 1) t true (List.replicate n ks).flatten := fun w x y hx hy sx sy hk => by
  cases x <;> simp only [isAggV, Bool.false_eq_true] at hx
  cases y <;> simp only [isAggV, Bool.false_eq_true] at hy
  rename_i xs ys
  simp only [Value.cells] at sx sy hk ⊢
  have hl : (List.replicate n ks).flatten.length = n * ks.length := by simp
  rw [hl] at sx sy ⊢
  obtain ⟨i, hi⟩ : ∃ i, P.info? e = some i := by
    cases h : P.info? e with
    | none => have := he.size; simp [h] at this
    | some i => exact ⟨i, rfl⟩
  have hc : P.cellsOf e = ks.length := by have := he.size; simp [Program.cellsOf, hi] at this ⊢; exact this
  have bound : ∀ j, j < n → j * ks.length + ks.length ≤ n * ks.length := fun j hj => by
    rw [← Nat.succ_mul]; exact Nat.mul_le_mul_right _ hj
  obtain ⟨r, hr, hiff⟩ := run_eqItems' he (xs := xs) (ys := ys) w (List.range n) (fun j hj => by
    have hj' := List.mem_range.1 hj
    have := bound j hj'
    refine ⟨by omega, by omega, fun i k hik => ?_⟩
    have hil : i < ks.length := (List.getElem?_eq_some_iff.1 hik).1
    exact hk (j * ks.length + i) k (by rw [flat_get hj' hil]; exact hik))
  refine ⟨r, by rw [run_equalIn_array w d xs ys hu hi, hc]; exact hr, hiff.trans ⟨fun h q hq => ?_, fun h j hj i hi => ?_⟩⟩
  · have hpos : 0 < ks.length := by
      rcases Nat.eq_zero_or_pos ks.length with h0 | h0
      · rw [h0] at hq; omega
      · exact h0
    have h1 : q / ks.length < n := Nat.div_lt_of_lt_mul (by rw [Nat.mul_comm]; exact hq)
    have h2 := h (q / ks.length) (List.mem_range.2 h1) (q % ks.length) (Nat.mod_lt _ hpos)
    rw [Nat.div_add_mod' ] at h2
    exact h2
  · have := bound j (List.mem_range.1 hj)
    exact h _ (by omega)

def FieldsEq (P : Program) (d : Nat) : Nat → List Field → List Nat → Prop
  | _, [], ks => ks = []
  | off, f :: fs, ks => f.name ≠ "_" ∧ f.offset = off ∧ ∃ isA k1 k2, ks = k1 ++ k2 ∧ PartT P d f.type isA k1 ∧ FieldsEq P d (off + k1.length) fs k2

theorem run_eqFields' {xs ys : Array Value} (w : World) : ∀ (fs : List Field) (off : Nat) (ks : List Nat), FieldsEq P d off fs ks → off + ks.length ≤ xs.size → off + ks.length ≤ ys.size →
    (∀ (i k : Nat), ks[i]? = some k → ∃ u v, xs[off + i]? = some u ∧ ys[off + i]? = some v ∧ kdOk k u v) →
    ∃ r : Bool, (Op.eqFields d xs ys fs).run P w = .ok r w ∧ (r = true ↔ ∀ i, i < ks.length → xs[off + i]? = ys[off + i]?)
  | [], off, ks, h, _, _, _ => by
    simp only [FieldsEq] at h
    subst h
    exact ⟨true, by simp [Op.eqFields], by simp⟩
  | f :: fs, off, ks, h, hx, hy, hk => by
    obtain ⟨hn, ho, isA, k1, k2, rfl, hp, hrest⟩ := h
    simp only [List.length_append] at hx hy
    obtain ⟨a, b, r, p1, p2, p3, hiff⟩ := eq_step hp (xs := xs) (ys := ys) (off := off) (by omega) (by omega) (fun i k hik => by
      have hi : i < k1.length := (List.getElem?_eq_some_iff.1 hik).1
      exact hk i k (by rw [List.getElem?_append_left hi]; exact hik)) w
    obtain ⟨r', hr', hiff'⟩ := run_eqFields' (xs := xs) (ys := ys) w fs (off + k1.length) k2 hrest (by omega) (by omega) (fun i k hik => by
      have := hk (k1.length + i) k (by rw [List.getElem?_append_right (by omega)]; simpa using hik)
      rw [Nat.add_assoc]; exact this)
    subst ho
    simp only [Op.eqFields, hn, ne_eq, not_false_eq_true, if_true, Sem.run_bind, p1, p2, p3, Result.andThen_ok]
    cases r
    · refine ⟨false, by simp, ?_⟩
      simp only [Bool.false_eq_true, false_iff]
      intro e
      exact absurd (hiff.2 fun i hi => e i (by simp; omega)) (by simp)
    · refine ⟨r', by simpa using hr', ?_⟩
      rw [hiff']
      have := hiff.1 rfl
      simp only [List.length_append]
      constructor
      · intro e i hi
        by_cases h1 : i < k1.length
        · exact this i h1
        · have := e (i - k1.length) (by omega)
          rw [show f.offset + k1.length + (i - k1.length) = f.offset + i by omega] at this
          exact this
      · intro e i hi
        have := e (k1.length + i) (by omega)
        rw [Nat.add_assoc]; exact this

theorem eqF_struct {fs : Array Field} {ks : List Nat} (hu : P.underlying t = some (.struct fs)) (hp : P.stoodInHeld t = false) (hf : FieldsEq P d 0 fs.toList ks) : EqF P (d + 1) t true ks := fun w x y hx hy sx sy hk => by
  cases x <;> simp only [isAggV, Bool.false_eq_true] at hx
  cases y <;> simp only [isAggV, Bool.false_eq_true] at hy
  rename_i xs ys
  simp only [Value.cells] at sx sy hk ⊢
  have hfo : P.fieldsOf t = fs := by simp [Program.fieldsOf, hu]
  obtain ⟨r, hr, hiff⟩ := run_eqFields' (xs := xs) (ys := ys) w fs.toList 0 ks hf (by omega) (by omega) (fun i k hik => by
    have := hk i k hik
    simpa using this)
  refine ⟨r, ?_, by simpa using hiff⟩
  rw [run_equalIn_struct w d t xs ys (by rw [hfo]; exact hu) hp, hfo]
  exact hr

theorem EqF.val {isA : Bool} {ks : List Nat} (h : EqF P 10000 t isA ks) (hA : isA = true) (hg : P.eqGuardType P.depth t = false) {xs ys : Array Value} {r : Bool} (sx : xs.size = ks.length) (sy : ys.size = ks.length)
    (hk : ∀ (i k : Nat), ks[i]? = some k → ∃ u v, xs[i]? = some u ∧ ys[i]? = some v ∧ kdOk k u v) (hr : xs = ys ↔ r = true) : EqV P t (.agg xs) (.agg ys) r where
  h w := by
    subst hA
    obtain ⟨q, h1, h2⟩ := h w (.agg xs) (.agg ys) rfl rfl sx sy hk
    have : q = r := by
      rw [Bool.eq_iff_iff, h2, ← hr]
      simp only [Value.cells]
      constructor
      · intro e
        apply Array.ext_getElem?
        intro i
        by_cases hi : i < ks.length
        · exact e i hi
        · simp [show ¬ i < xs.size by omega, show ¬ i < ys.size by omega]
      · rintro rfl i _; rfl
    rw [h1, this]
  plain := hg
  agg := ⟨xs, ys, rfl, rfl⟩
end

end Go.Eng

/- Keys and prefixes as cells of this program. -/
namespace Go.Proofs.YtldkgicmfbofiaaGreatDoor
open Go.Eng Go.Kb

instance (k : Key) : SizeIs (kcells k) 16 := ⟨kcells_size k, by
 rw [Array.all_eq_true_iff_forall_mem]; intro v hv
 simp only [kcells, List.mem_toArray, List.mem_map] at hv
 obtain ⟨i, _, rfl⟩ := hv; rfl⟩
instance (p : Pfx) : SizeIs (pcells p) 18 := ⟨pcells_size p, by
 have h : (kcells p.key).all (·.oneCell') = true := (inferInstance : SizeIs (kcells p.key) 16).one
 rw [pcells, Array.all_append, h]; simp [Value.oneCell']⟩
instance (p : Pfx) : CellAt (pcells p) 0 (.int .i64 p.bits) := ⟨pcells_0 p⟩
instance (p : Pfx) : CellAt (pcells p) 1 (.int .i64 p.len) := ⟨pcells_1 p⟩
instance (p : Pfx) : PartAt (pcells p) 2 16 (kcells p.key) := ⟨kcells_size _, fun j _ => pcells_k p j⟩

theorem part5 (d : Nat) : PartT Tryz.prog (d + 1) 5 false [0] := ⟨⟨_, Tryz.underlying5, rfl⟩, by kernel_rfl, fun _ => rfl, eqF_int Tryz.underlying5⟩
theorem part3 (d : Nat) : PartT Tryz.prog (d + 1) 3 false [0] := ⟨⟨_, Tryz.underlying3, rfl⟩, by kernel_rfl, fun _ => rfl, eqF_int Tryz.underlying3⟩
theorem partK (d : Nat) : PartT Tryz.prog (d + 1 + 1) 27 true (List.replicate 16 [0]).flatten := ⟨⟨_, Tryz.underlying27, rfl⟩, by kernel_rfl, (fun h => by cases h), eqF_arr Tryz.underlying27 (part5 d)⟩
theorem stoodX : Tryz.prog.stoodInHeld 29 = false := by kernel_rfl
theorem partX (d : Nat) : PartT Tryz.prog (d + 1 + 1 + 1) 29 true ([0] ++ ([0] ++ ((List.replicate 16 [0]).flatten ++ []))) := ⟨⟨_, Tryz.underlying29, rfl⟩, by kernel_rfl, (fun h => by cases h),
 eqF_struct Tryz.underlying29 stoodX ⟨by decide, rfl, _, _, _, rfl, part3 _, by decide, rfl, _, _, _, rfl, part3 _, by decide, rfl, _, _, _, rfl, partK _, rfl⟩⟩
theorem guardK : Tryz.prog.eqGuardType Tryz.prog.depth 27 = false := by kernel_rfl
theorem guardX : Tryz.prog.eqGuardType Tryz.prog.depth 29 = false := by kernel_rfl
instance (a b : Key) : EqV Tryz.prog 27 (.agg (kcells a)) (.agg (kcells b)) (decide (a = b)) :=
 (partK 9998).eq.val rfl guardK (kcells_size a) (kcells_size b) (fun i k hk => by
  have hi : i < 16 := (List.getElem?_eq_some_iff.1 hk).1
  have h0 : k = 0 := by
   have : k ∈ (List.replicate 16 [0]).flatten := List.mem_of_getElem? hk
   simpa using this
  subst h0
  exact ⟨_, _, kcells_get a i hi, kcells_get b i hi, rfl⟩) (by rw [decide_eq_true_iff]; exact ⟨kcells_inj, fun h => by rw [h]⟩)
instance (a b : Pfx) : EqV Tryz.prog 29 (.agg (pcells a)) (.agg (pcells b)) (decide (a = b)) :=
 (partX 9997).eq.val rfl guardX (pcells_size a) (pcells_size b) (fun i k hk => by
  have h0 : k = 0 := by
   have : k ∈ ([0] ++ ([0] ++ ((List.replicate 16 [0]).flatten ++ []))) := List.mem_of_getElem? hk
   simpa using this
  subst h0
  have hi : i < 18 := (List.getElem?_eq_some_iff.1 hk).1
  match i, hi with
  | 0, _ => exact ⟨_, _, pcells_0 a, pcells_0 b, rfl⟩
  | 1, _ => exact ⟨_, _, pcells_1 a, pcells_1 b, rfl⟩
  | j + 2, hi => rw [Nat.add_comm j 2]; exact ⟨_, _, (pcells_k a j).trans (kcells_get _ j (by omega)), (pcells_k b j).trans (kcells_get _ j (by omega)), rfl⟩) (by rw [decide_eq_true_iff]; exact ⟨pcells_inj, fun h => by rw [h]⟩)
theorem kcells_zero : kcells 0#128 = (List.replicate 16 (Value.int .u8 0)).toArray := by
 apply Array.ext'
 simp only [kcells]
 refine List.eq_replicate_iff.2 ⟨by simp, fun v hv => ?_⟩
 simp only [List.mem_map] at hv
 obtain ⟨i, _, rfl⟩ := hv
 simp [kbyte]
instance (n m : Int) (k : Key) : BuildT Tryz.prog 29 [(0, .int .i64 n), (1, .int .i64 m), (2, .agg (kcells k))] (.agg (pcells ⟨n, m, k⟩)) := ⟨fun w => by kernel_rfl⟩
instance : ZeroT Tryz.prog 27 (.agg (kcells 0#128)) := ⟨by rw [kcells_zero]; kernel_rfl⟩
instance : ZeroT Tryz.prog 29 (.agg (pcells ⟨0, 0, 0#128⟩)) := ⟨by unfold pcells; rw [kcells_zero]; kernel_rfl⟩

end Go.Proofs.YtldkgicmfbofiaaGreatDoor

