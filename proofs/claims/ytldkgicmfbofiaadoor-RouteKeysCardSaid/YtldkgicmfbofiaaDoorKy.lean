/- A key's bytes: as a slice, one by one. -/
import Derived.Test.YtldkgicmfbofiaaDoorSy
import Derived.Test.YtldkgicmfbofiaaDoorTs
import Derived.Lib.Join
set_option linter.unusedSimpArgs false
set_option linter.unusedVariables false
namespace Go.Kb
open Go.Eng
variable {k : Key} {i n : Nat} {s : Txt} {c : UInt8}
def kbytes (k : Key) : List UInt8 := (List.range 16).map fun i => UInt8.ofNat (kbyte k i)
theorem kbytes_get (k : Key) (h : i < 16) : (kbytes k)[i]? = some (UInt8.ofNat (kbyte k i)) := by simp [kbytes, h]
theorem kb_toNat (k : Key) (i : Nat) : (UInt8.ofNat (kbyte k i)).toNat = kbyte k i := by
  have := kbyte_lt k i
  rw [UInt8.toNat_ofNat']; omega
theorem four_len (k : Key) : ((kbytes k).take 4).length = 4 := by simp [kbytes]
instance key4 {w0 : World} {L : List Ent} {b j : Nat} {T : TypeId} [h : Has L b (kcells k) T j] : Hd w0 L ⟨false, b, 0, 4, 16, none⟩ benc 1 ((kbytes k).take 4) := ⟨fun w hw => by
  have hb : hp w b = some (.cells (kcells k) T (0, 0)) := hw.get h.h
  refine ⟨⟨(fun e => Bool.noConfusion e), (by show 4 ≤ 16; decide), (by show 4 ≤ 140737488355328; decide), fun _ => rfl⟩, (four_len k).symm, fun i x hx m hm => ?_⟩
  obtain rfl : m = 0 := by omega
  have hi : i < 4 := by
    have := (List.getElem?_eq_some_iff.1 hx).1
    rw [four_len] at this; exact this
  rw [List.getElem?_take, if_pos hi, kbytes_get k (by omega)] at hx
  obtain rfl := Option.some.inj hx
  have e : cellH (hp w) b (0 + i * 1 + 0) = (kcells k)[i]? := by
    unfold cellH
    rw [hb]
    simp
  rw [e, kcells_get k i (by omega)]
  show some (Value.int .u8 ((kbyte k i : Nat) : Int)) = some (Value.int .u8 ((UInt8.ofNat (kbyte k i)).toNat : Nat))
  rw [kb_toNat]⟩
section
variable {P : Program} {N : Fra} {w0 : World} {env : Env} {L : List Ent} {d : Option Tmp} {ty t u : TypeId} {ps : String} {af : Array Edge} {gd : Option (Nat × Bool)}
theorem ry_ixKey {e : TypeId} {x ix : Operand} {kk : IntKind} {j : Int} (hu : P.underlying t = some (.array 16 e)) [he : OneT P e] (hx : ev env x = some (.agg (kcells k))) (hj : ev env ix = some (.int kk j)) (b : Nat) (ej : j = (b : Int)) (hb : b < 16) :
    Ry P N w0 env L ⟨d, .index t x ix, ty, ps, af, gd⟩ (.int .u8 ((kbyte k b : Nat) : Int)) := fun ac w ha _ => by
  subst ej
  obtain ⟨⟨de, h1, h2⟩, h3⟩ := he
  have g : (b : Int) < ((16 : Nat) : Int) := by omega
  have hk : (kcells k)[b]! = .int .u8 ((kbyte k b : Nat) : Int) := by
    rw [getElem!_def, kcells_get k b hb]
  have hk2 : (kcells k)[b]? = some (.int .u8 ((kbyte k b : Nat) : Int)) := kcells_get k b hb
  simp only [execOp, ha.ev hx, ha.ev hj, Instr.index, asIntOf, Sem.run_bind, run_underlying hu, Result.andThen, Sem.run_pure, Int.natCast_nonneg, true_and, g, if_true, Int.toNat_natCast, run_sizeOf' w h3, part, run_isAgg' w h1, h2, Nat.mul_one, hk, hk2]
  rfl
end
/-! Texts of keys. -/
def joinT (sep : Txt) (xs : List Txt) : Txt := Lib.join xs sep
theorem joinT_two (c : UInt8) (a b : Txt) : joinT [c] [a, b] = a ++ c :: b := by simp [joinT, Lib.join, List.intercalate]
theorem joinT_four (k : Key) : joinT [46] (((kbytes k).take 4).map fun b => dec b.toNat) = shortT k := by
  have e : (kbytes k).take 4 = [UInt8.ofNat (kbyte k 0), UInt8.ofNat (kbyte k 1), UInt8.ofNat (kbyte k 2), UInt8.ofNat (kbyte k 3)] := rfl
  rw [e]
  simp only [List.map_cons, List.map_nil, kb_toNat]
  simp [joinT, Lib.join, List.intercalate, shortT]
def keyB (k : Key) (n : Int) : Bool := pmay ⟨n, n, k⟩
def keyS (k : Key) (n : Int) : Txt := if keyB k n = true then keyT k n else []
def errB (b : Bool) : Int := if b = true then 0 else 1
theorem hexStep (k : Key) (h : i < 32) : ((⟨([48, 49, 50, 51, 52, 53, 54, 55, 56, 57, 97, 98, 99, 100, 101, 102] : Txt).toArray⟩ : ByteArray)[nib k i]?).map (·.toNat) = some (hexc (nib k i)).toNat := by
  have hn := nib_lt k i
  have key : ∀ n, n < 16 → ((⟨([48, 49, 50, 51, 52, 53, 54, 55, 56, 57, 97, 98, 99, 100, 101, 102] : Txt).toArray⟩ : ByteArray)[n]?).map (·.toNat) = some (hexc n).toNat := by decide
  exact key _ hn
theorem hexc_lt (h : n < 16) : (hexc n).toNat < 128 := by
  rw [hexc_toNat h]; split <;> omega
theorem wide_take (k : Key) (h : i < 32) : (wideT k).take (i + 1) = (wideT k).take i ++ [hexc (nib k i)] := by
  rw [List.take_add_one, wide_get k h]; rfl
theorem step_nib (k : Key) (h : i < 32) : kstep k (i : Int) = ((nib k i : Nat) : Int) := by
  rcases Nat.mod_two_eq_zero_or_one i with e | e
  · rw [kstep_even k i (by omega) (by omega) (by omega), nib, if_pos e]
    rw [show ((i : Int) / 2).toNat = i / 2 by omega]
  · rw [kstep_odd k i (by omega) (by omega) (by omega), nib, if_neg (by omega)]
    rw [show ((i : Int) / 2).toNat = i / 2 by omega]
end Go.Kb
namespace Go.Kb
open Go.Eng
theorem keyB_iff {k : Key} {n : Int} : keyB k n = true ↔ (n = 32 ∨ n = 128) ∧ kcut k n = k := by
  unfold keyB
  simp only [pmay, Bool.and_eq_true, Bool.or_eq_true, decide_eq_true_eq]
  constructor
  · intro h; exact ⟨by omega, by simp_all⟩
  · intro h; simp_all; omega
theorem keyB_no {k : Key} {n : Int} (h : ¬ (n = 32 ∨ n = 128)) : keyB k n = false := by
  rw [← Bool.not_eq_true, keyB_iff]; exact fun e => h e.1
theorem keyB_cut {k : Key} {n : Int} (h : n = 32 ∨ n = 128) : keyB k n = decide (kcut k n = k) := by
  rw [Bool.eq_iff_iff, keyB_iff, decide_eq_true_iff]; exact ⟨fun e => e.2, fun e => ⟨h, e⟩⟩
end Go.Kb
namespace Go.Kb
open Go.Eng
variable {k : Key} {i : Nat}
def HEX : Txt := [48, 49, 50, 51, 52, 53, 54, 55, 56, 57, 97, 98, 99, 100, 101, 102]
theorem hexAny (n : Nat) (h : n < 16) : ((⟨([48, 49, 50, 51, 52, 53, 54, 55, 56, 57, 97, 98, 99, 100, 101, 102] : Txt).toArray⟩ : ByteArray)[n]?).map (·.toNat) = some (hexc n).toNat := by
  have key : ∀ n, n < 16 → ((⟨([48, 49, 50, 51, 52, 53, 54, 55, 56, 57, 97, 98, 99, 100, 101, 102] : Txt).toArray⟩ : ByteArray)[n]?).map (·.toNat) = some (hexc n).toNat := by decide
  exact key n h
theorem nibHi (k : Key) (i : Nat) : kbyte k i / 2 ^ 4 = nib k (2 * i) := by
  rw [nib, if_pos (by omega), show 2 * i / 2 = i by omega]
theorem nibLo (k : Key) (i : Nat) : kbyte k i &&& 15 = nib k (2 * i + 1) := by
  rw [nib, if_neg (by omega), show (2 * i + 1) / 2 = i by omega]
  exact Nat.and_two_pow_sub_one_eq_mod _ 4
theorem hexHi (k : Key) (i : Nat) : ((⟨([48, 49, 50, 51, 52, 53, 54, 55, 56, 57, 97, 98, 99, 100, 101, 102] : Txt).toArray⟩ : ByteArray)[kbyte k i / 2 ^ 4]?).map (·.toNat) = some (hexc (nib k (2 * i))).toNat := by
  rw [nibHi]; exact hexAny _ (nib_lt k _)
theorem hexLo (k : Key) (i : Nat) : ((⟨([48, 49, 50, 51, 52, 53, 54, 55, 56, 57, 97, 98, 99, 100, 101, 102] : Txt).toArray⟩ : ByteArray)[kbyte k i &&& 15]?).map (·.toNat) = some (hexc (nib k (2 * i + 1))).toNat := by
  rw [nibLo]; exact hexAny _ (nib_lt k _)
theorem wide_take2 (k : Key) (h : i < 16) : (wideT k).take (2 * (i + 1)) = (wideT k).take (2 * i) ++ [hexc (nib k (2 * i)), hexc (nib k (2 * i + 1))] := by
  rw [show 2 * (i + 1) = 2 * i + 1 + 1 by omega, wide_take k (by omega), wide_take k (by omega), List.append_assoc]; rfl
theorem four_take (h : i < 4) {x : UInt8} (hx : ((kbytes k).take 4)[i]? = some x) : ((((kbytes k).take 4).take (i + 1)).map fun b => dec b.toNat) = ((((kbytes k).take 4).take i).map fun b => dec b.toNat) ++ [dec x.toNat] := by
  rw [List.take_add_one, hx, List.map_append]; rfl
theorem short_len (k : Key) : (shortT k).length ≤ 15 := by
  have q0 := kbyte_lt k 0
  have q1 := kbyte_lt k 1
  have q2 := kbyte_lt k 2
  have q3 := kbyte_lt k 3
  have l0 := dec_len 3 (kbyte k 0) (by omega) (by decide)
  have l1 := dec_len 3 (kbyte k 1) (by omega) (by decide)
  have l2 := dec_len 3 (kbyte k 2) (by omega) (by decide)
  have l3 := dec_len 3 (kbyte k 3) (by omega) (by decide)
  simp only [shortT, List.length_append, List.length_cons]; omega
theorem keyS_len (k : Key) (n : Int) : (keyS k n).length ≤ 32 := by
  have := short_len k
  have := wide_len k
  unfold keyS keyT
  split
  · split <;> omega
  · simp
theorem four_pre (k : Key) : (((kbytes k).take 4).map fun b => dec b.toNat) ≠ [] ∧ (joinT [46] (((kbytes k).take 4).map fun b => dec b.toNat)).length ≤ 140737488355328 := by
  refine ⟨fun e => ?_, by rw [joinT_four]; have := short_len k; omega⟩
  have := congrArg List.length e
  rw [List.length_map, four_len] at this; cases this
def pfxS (p : Pfx) : Txt := if pmay p = true then pfxT p else []
def lineS (r : Rt) : Txt := if pmay r.p = true then lineT r else []
theorem pmay_key {p : Pfx} (h : pmay p = true) : keyB p.key p.bits = true ∧ 0 ≤ p.len ∧ p.len ≤ 128 := by
  obtain ⟨h1, h2, h3, h4⟩ := (pmay_bits p).1 h
  refine ⟨?_, by omega, by omega⟩
  rw [keyB, pmay_bits]
  exact ⟨h1, by show 0 ≤ p.bits; omega, Int.le_refl _, fun j hj hj2 => h4 j hj (by have : p.bits ≤ (j : Int) := hj2; omega)⟩
theorem join2_pre (a b : Txt) (c : UInt8) (h : a.length + b.length ≤ 1000) : [a, b] ≠ [] ∧ (joinT [c] [a, b]).length ≤ 140737488355328 := by
  refine ⟨by simp, ?_⟩
  rw [joinT_two, List.length_append, List.length_cons]; omega
theorem pfxS_len (p : Pfx) : (pfxS p).length ≤ 36 := by
  unfold pfxS
  split
  · rename_i h
    obtain ⟨h1, h2, h3⟩ := pmay_key h
    have hk := keyS_len p.key p.bits
    rw [keyS, if_pos h1] at hk
    have := dec_len 3 p.len.toNat (by omega) (by decide)
    simp only [pfxT, List.length_append, List.length_cons]; omega
  · simp
end Go.Kb
