/- Texts: their bytes, parts and sums. -/
import Derived.Test.YtldkgicmfbofiaaDoorDp
import Derived.Test.YtldkgicmfbofiaaDoorRa
import Derived.Laws.DeepStrings4
import Derived.Laws.Runes
import Derived.Lib.Strings
set_option linter.unusedSimpArgs false
set_option linter.unusedVariables false
namespace Go.Eng
open Go.RowKit
def txc (s : Txt) : Array Value := #[.string ⟨s.toArray⟩]
instance : Enc txc 1 := ⟨fun _ => rfl, fun s => by simp [txc, Value.oneCell']⟩
instance : Deep Txt := Deep.flat txc 1
instance : FlatT Txt txc 1 := ⟨rfl, fun _ => rfl⟩
instance (s : Txt) : CellAt (txc s) 0 (.string ⟨s.toArray⟩) := ⟨rfl⟩
theorem tx_size (s : Txt) : (⟨s.toArray⟩ : ByteArray).size = s.length := by simp [ByteArray.size]
theorem tx_get (s : Txt) (i : Nat) : (⟨s.toArray⟩ : ByteArray)[i]? = s[i]? := by
  by_cases h : i < s.length
  · rw [ByteArray.getElem?_lt' _ _ (by rw [tx_size]; exact h), List.getElem?_eq_getElem h]
    rfl
  · rw [ByteArray.getElem?_ge' _ _ (by rw [tx_size]; exact h), List.getElem?_eq_none (by omega)]
theorem tx_sub (s : Txt) (a b : Nat) : (⟨s.toArray⟩ : ByteArray).extract a b = ⟨((s.drop a).take (b - a)).toArray⟩ := by
  have h := Lib.extract_data (⟨s.toArray⟩ : ByteArray) a b
  have : ((⟨s.toArray⟩ : ByteArray).extract a b).data = ((s.drop a).take (b - a)).toArray := by
    apply Array.ext'
    rw [h]
  cases e : (⟨s.toArray⟩ : ByteArray).extract a b with
  | mk d => rw [e] at this; rw [← this]
theorem tx_add (a b : Txt) : (⟨a.toArray⟩ : ByteArray) ++ ⟨b.toArray⟩ = ⟨(a ++ b).toArray⟩ := by
  have : ((⟨a.toArray⟩ : ByteArray) ++ ⟨b.toArray⟩).data = (a ++ b).toArray := by
    rw [ByteArray.data_append]; simp
  cases e : (⟨a.toArray⟩ : ByteArray) ++ ⟨b.toArray⟩ with
  | mk d => rw [e] at this; rw [← this]
theorem tx_inj {a b : Txt} (h : (⟨a.toArray⟩ : ByteArray) = ⟨b.toArray⟩) : a = b := by
  have := congrArg (fun z : ByteArray => z.data.toList) h
  simpa using this
theorem tx_of (s : ByteArray) : s = ⟨s.data.toList.toArray⟩ := by cases s; simp
theorem split_len (c : UInt8) : ∀ s : Txt, (splitL c s).length ≤ s.length + 1
  | [] => by simp [splitL]
  | x :: s => by
    have ih := split_len c s
    rw [splitL]
    split
    · simp; omega
    · split
      · simp
      · rename_i p r h
        rw [h] at ih
        simp at ih ⊢; omega
section
variable {P : Program} {N : Fra} {w0 : World} {env : Env} {L : List Ent} {d : Option Tmp} {ty t u : TypeId} {ps : String} {af : Array Edge} {gd : Option (Nat × Bool)} {x y lo hi : Operand} {k k' : IntKind} {a b s : Txt}
theorem ry_lenT (ht : P.underlying t = some .string) (hx : ev env x = some (.string ⟨s.toArray⟩)) :
    Ry P N w0 env L ⟨d, .call { callee := .builtin .len, args := #[x], argTypes := #[t] }, ty, ps, af, gd⟩ (.int .i64 (s.length : Nat)) := fun aa w ha _ => by
  have h : (Builtin.len_ #[t] ty #[.string ⟨s.toArray⟩]).run P w = .ok (goInt s.length) w := by
    rw [run_len_string w t ty _ ht, tx_size]
  simp [execOp, ha.ev hx, resolve, invoke, builtin, h, Result.andThen, goInt]
theorem ry_idxT {j : Int} (i : Nat) (hu : P.underlying t = some .string) (hx : ev env x = some (.string ⟨s.toArray⟩)) (hj : ev env y = some (.int k j)) (ej : j = (i : Int)) (h : i < s.length) :
    Ry P N w0 env L ⟨d, .index t x y, ty, ps, af, gd⟩ (.int .u8 ((s.getD i 0).toNat : Nat)) := ry_idxStr hu hx hj (by omega) (by
  subst ej
  rw [tx_get, Int.toNat_natCast, List.getElem?_eq_getElem h]
  simp [List.getD, h])
theorem ry_strcat (hx : ev env x = some (.string ⟨a.toArray⟩)) (hy : ev env y = some (.string ⟨b.toArray⟩)) (h : a.length + b.length < 4294967296) :
    Ry P N w0 env L ⟨d, .binOp .add t x y u, ty, ps, af, gd⟩ (.string ⟨(a ++ b).toArray⟩) := fun aa w ha _ => by
  have h2 : (eqGuard BinOp.add t x y (.string ⟨a.toArray⟩) (.string ⟨b.toArray⟩)).run P w = .ok () w := rfl
  have hl : ¬ (((⟨a.toArray⟩ : ByteArray).size + (⟨b.toArray⟩ : ByteArray).size : Nat) : Int) > IntKind.i64.max := by
    rw [tx_size, tx_size, show IntKind.i64.max = 9223372036854775807 from rfl]; omega
  have h3 : (Op.stringOp .add (⟨a.toArray⟩ : ByteArray) ⟨b.toArray⟩).run P w = .ok (.string ⟨(a ++ b).toArray⟩) w := by
    simp only [Op.stringOp, hl, if_false, tx_add]; rfl
  simp only [execOp, ha.ev hx, ha.ev hy, Sem.run_bind, h2, Result.andThen_ok, binOp_string_add, h3, Sem.run_pure]
theorem ry_strsub {p q : Int} (l h : Nat) (ht : P.underlying t = some .string) (hx : ev env x = some (.string ⟨s.toArray⟩)) (hl : ev env lo = some (.int k p)) (hh : ev env hi = some (.int k' q)) (el : p = (l : Int)) (eh : q = (h : Int)) (h1 : l ≤ h) (h2 : h ≤ s.length) :
    Ry P N w0 env L ⟨d, .slice t x (some lo) (some hi) none, ty, ps, af, gd⟩ (.string ⟨((s.drop l).take (h - l)).toArray⟩) := fun aa w ha _ => by
  subst el; subst eh
  have hr := run_slice_string_if (P := P) w t ⟨s.toArray⟩ k k' l h ht
  rw [if_pos ⟨by omega, by rw [tx_size]; omega⟩, if_pos ⟨by omega, by omega⟩, Int.toNat_natCast, Int.toNat_natCast, tx_sub] at hr
  have e1 : ((some lo).map aa.eval : Option Value) = some (.int k l) := by simp [ha.ev hl]
  have e2 : ((some hi).map aa.eval : Option Value) = some (.int k' h) := by simp [ha.ev hh]
  simp only [execOp, ha.ev hx, e1, e2, Option.map_none, run_sliceAt_string (h := ht), hr, Sem.run_bind, Result.andThen, Sem.run_pure]
theorem Ry.as {o : Oper} {v v' : Value} (h : Ry P N w0 env L o v) (e : v = v') : Ry P N w0 env L o v' := e ▸ h
theorem ry_strhi {q : Int} (h : Nat) (ht : P.underlying t = some .string) (hx : ev env x = some (.string ⟨s.toArray⟩)) (hh : ev env hi = some (.int k' q)) (eh : q = (h : Int)) (h2 : h ≤ s.length) :
    Ry P N w0 env L ⟨d, .slice t x none (some hi) none, ty, ps, af, gd⟩ (.string ⟨(s.take h).toArray⟩) := fun aa w ha _ => by
  subst eh
  have hr := run_slice_string_h (P := P) (w := w) t ⟨s.toArray⟩ ht k' h (by omega) (by rw [tx_size]; omega)
  rw [Int.toNat_natCast, tx_sub, Nat.sub_zero, List.drop_zero] at hr
  simp only [execOp, ha.ev hx, ha.ev hh, Option.map_some, Option.map_none, run_sliceAt_string (h := ht), hr, Sem.run_bind, Result.andThen, Sem.run_pure]
theorem ry_shl16 {p : Nat} {v1 v2 : Int} (hx : ev env x = some (.int .u8 v1)) (hy : ev env y = some (.int k' v2)) (ea : v1 = p) (hp : p < 16) (eb : v2 = 4 := by rfl) :
    Ry P N w0 env L ⟨d, .binOp .shl t x y u, ty, ps, af, gd⟩ (.int .u8 ((p * 16 : Nat) : Int)) := by
  subst ea eb
  refine Ry.as (ry_shl hx hy (by decide)) (congrArg (Value.int .u8) ?_)
  have e : ((p : Int) * 2 ^ min (4 : Int).toNat IntKind.u8.bits) = ((p * 16 : Nat) : Int) := by
    rw [show (2 : Int) ^ min (4 : Int).toNat IntKind.u8.bits = 16 by decide]; omega
  rw [e]; exact wrap_nat (by simp only [nb]; omega)
theorem ry_subn {p q : Nat} {v1 v2 : Int} (hx : ev env x = some (.int k v1)) (hy : ev env y = some (.int k v2)) (ea : v1 = p) (eb : v2 = q) (h : q ≤ p) (h2 : p < 2 ^ nb k := by first | (simp only [nb]; omega) | exact (UInt8.toNat_lt _)) :
    Ry P N w0 env L ⟨d, .binOp .sub t x y u, ty, ps, af, gd⟩ (.int k ((p - q : Nat) : Int)) := ry_int hx hy (by
  subst ea eb
  rw [intOp, show (p : Int) - (q : Int) = ((p - q : Nat) : Int) by omega, wrap_nat (by omega)])
theorem ry_rune {n : Nat} (hs : (P.underlying t).isSome = true) (hd : P.underlying u = some .string) (hx : ev env x = some (.int k n)) (h : n < 128) :
    Ry P N w0 env L ⟨d, .convert t u x, ty, ps, af, gd⟩ (.string ⟨[UInt8.ofNat n].toArray⟩) := fun aa w ha _ => by
  have hr := run_convert_int_string (P := P) w t u k n hs hd
  have he : Utf8.encode (n : Int) = ⟨[UInt8.ofNat n].toArray⟩ := by
    have hv : Utf8.valid (n : Int) = true := by simp [Utf8.valid]; omega
    unfold Utf8.encode
    simp only [hv, if_true, Int.toNat_natCast, h]
  rw [he] at hr
  simp only [execOp, ha.ev hx, Sem.run_bind, hr, Result.andThen, Sem.run_pure]
end
end Go.Eng
