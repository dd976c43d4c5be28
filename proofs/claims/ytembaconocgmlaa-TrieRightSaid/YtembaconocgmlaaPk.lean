/- Routes as bytes. No program in sight. -/
import Derived.Test.YtembaconocgmlaaRt
import Derived.Test.YtembaconocgmlaaBy
set_option linter.unusedSimpArgs false
set_option linter.unusedVariables false
namespace Go.Kb
open Go.Eng

/-- A number's last byte, of any number. -/
def b8i (n : Int) : UInt8 := b8 (n % 256).toNat
theorem b8i_nat (n : Nat) : b8i (n : Int) = b8 n := by
  unfold b8i
  rw [show ((n : Int) % 256).toNat = n % 256 by omega, b8_mod]
theorem wrap_b8i (n : Int) : IntKind.u8.wrap n = ((b8i n).toNat : Int) := by
  unfold b8i
  rw [b8_toNat]; simp [IntKind.wrap, IntKind.bits, IntKind.signed]; omega
/-- The bytes of a route. -/
def rbytes (r : Rt) : List UInt8 :=
  [if r.p.bits = 128 then 1 else 0, b8i r.p.len] ++ (List.range 16).map (fun i => b8 (kbyte r.p.key i)) ++ [b8 (r.hop.toNat / 256), b8 r.hop.toNat]
theorem rbytes_length (r : Rt) : (rbytes r).length = 20 := by simp [rbytes]
theorem rbytes_0 (r : Rt) : (rbytes r)[0]? = some (if r.p.bits = 128 then 1 else 0) := by simp [rbytes]
theorem rbytes_1 (r : Rt) : (rbytes r)[1]? = some (b8i r.p.len) := by simp [rbytes]
theorem rbytes_k (r : Rt) (i : Nat) (h : i < 16) : (rbytes r)[2 + i]? = some (b8 (kbyte r.p.key i)) := by
  unfold rbytes
  rw [List.append_assoc, List.getElem?_append_right (by simp), List.getElem?_append_left (by simp; omega)]
  simp [h]
theorem rbytes_18 (r : Rt) : (rbytes r)[18]? = some (b8 (r.hop.toNat / 256)) := by simp [rbytes]
theorem rbytes_19 (r : Rt) : (rbytes r)[19]? = some (b8 r.hop.toNat) := by simp [rbytes]

/-- The cells of a route's bytes, as they are laid. -/
theorem laid_cells (r : Rt) {cs0 : Array Value} (h0 : cs0.size = 20) (hz : cs0[0]? = some (.int .u8 (if r.p.bits = 128 then 1 else 0 : Nat))) :
    (((over (cs0.setIfInBounds 1 (.int .u8 (b8i r.p.len).toNat)) 2 (kcells r.p.key)).setIfInBounds 18 (.int .u8 (b8 (r.hop.toNat / 256)).toNat)).setIfInBounds 19 (.int .u8 (b8 r.hop.toNat).toNat)) = (flatR benc (rbytes r)).toArray := by
  have hs : (over (cs0.setIfInBounds 1 (.int .u8 (b8i r.p.len).toNat)) 2 (kcells r.p.key)).size = 20 := by rw [over_size (by simp [kcells_size, h0])]; simpa using h0
  refine Array.ext_getElem? fun j => ?_
  have hf : ∀ b, (rbytes r)[j]? = some b → (flatR benc (rbytes r)).toArray[j]? = some (.int .u8 b.toNat) := fun b hb => by
    have := flatR_get (enc := benc) (rbytes r) j b hb 0 (by decide)
    simp only [Nat.mul_one, Nat.add_zero] at this
    simpa [benc] using this
  have hk : 2 + (kcells r.p.key).size ≤ (cs0.setIfInBounds 1 (.int .u8 (b8i r.p.len).toNat)).size := by simp [kcells_size, h0]
  rw [Array.getElem?_setIfInBounds, Array.getElem?_setIfInBounds]
  by_cases h19 : 19 = j
  · subst h19; rw [hf _ (rbytes_19 r)]; simp [hs]
  by_cases h18 : 18 = j
  · subst h18; rw [hf _ (rbytes_18 r)]; simp [hs]
  rw [if_neg h19, if_neg h18, cells_over hk, kcells_size]
  by_cases h2 : 2 ≤ j ∧ j < 2 + 16
  · rw [if_pos h2, kcells_get _ _ (by omega)]
    have := rbytes_k r (j - 2) (by omega)
    rw [show 2 + (j - 2) = j by omega] at this
    rw [hf _ this, b8_toNat]
    have := kbyte_lt r.p.key (j - 2)
    rw [Nat.mod_eq_of_lt this]
  rw [if_neg h2, Array.getElem?_setIfInBounds]
  by_cases h1 : 1 = j
  · subst h1; rw [hf _ (rbytes_1 r)]; simp [h0]
  rw [if_neg h1]
  by_cases hj : j = 0
  · subst hj
    rw [hz, hf _ (rbytes_0 r)]
    split <;> rfl
  · have e1 : cs0[j]? = none := by simp; omega
    rw [e1]
    have : (flatR benc (rbytes r)).length = 20 := by rw [flatR_length, rbytes_length]
    simp; omega

/-- A route's bytes, as far as byte i of its key. -/
def rpre (r : Rt) (i : Nat) : List UInt8 := [if r.p.bits = 128 then 1 else 0, b8i r.p.len] ++ (List.range i).map (fun i => b8 (kbyte r.p.key i))
theorem rpre_length (r : Rt) (i : Nat) : (rpre r i).length = i + 2 := by simp [rpre]
theorem rpre_succ (r : Rt) (i : Nat) : rpre r (i + 1) = rpre r i ++ [b8 (kbyte r.p.key i)] := by simp [rpre, List.range_succ]
theorem rpre_all (r : Rt) : rpre r 16 ++ be r.hop.toNat 2 = rbytes r := by simp [rpre, rbytes, be]
theorem rpre_zero (r : Rt) : [if r.p.bits = 128 then 1 else 0] ++ [b8i r.p.len] = rpre r 0 := by simp [rpre]
theorem b8_kbyte (k : Key) (i : Nat) : (kbyte k i : Int) = ((b8 (kbyte k i)).toNat : Int) := by
  rw [b8_toNat, Nat.mod_eq_of_lt (kbyte_lt k i)]
end Go.Kb
