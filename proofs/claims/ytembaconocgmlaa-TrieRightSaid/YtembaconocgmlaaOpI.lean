/- Arguments of this program, opened. -/
import Derived.Test.YtembaconocgmlaaOp
import Derived.Test.YtembaconocgmlaaRinst
import Derived.Test.YtembaconocgmlaaDt
set_option linter.unusedSimpArgs false
set_option linter.unusedVariables false
namespace Go.Proofs.Ytembaconocgmlaa
open Go.Eng Go.Kb
instance op2 : OpenT Try.prog 2 Int := open_i64 Try.underlying2 (by kernel_rfl)
instance op3 : OpenT Try.prog 3 Int := open_i64 Try.underlying3 (by kernel_rfl)
instance op4 : OpenT Try.prog 4 Bool := open_bool Try.underlying4 (by kernel_rfl)
instance op5 : OpenT Try.prog 5 UInt8 := open_u8 Try.underlying5 (by kernel_rfl)
instance op6 : OpenT Try.prog 6 UInt8 := open_u8 Try.underlying6 (by kernel_rfl)
instance op22 : OpenT Try.prog 22 UInt16 := open_u16 Try.underlying22 (by kernel_rfl)
instance op31 : OpenT Try.prog 31 Int := open_i64 Try.underlying31 (by kernel_rfl)
instance op148 : OpenT Try.prog 148 UInt8 := open_u8 Try.underlying148 (by kernel_rfl)
instance op149 : OpenT Try.prog 149 UInt8 := open_u8 Try.underlying149 (by kernel_rfl)

instance : Enc kcells 16 := ⟨kcells_size, fun k => (inferInstance : SizeIs (kcells k) 16).one⟩
instance : Deep Key := Deep.flat kcells 16
instance : FlatT Key kcells 16 := ⟨rfl, fun _ => rfl⟩
instance : Plain Key := ⟨fun _ => rfl⟩
instance : Enc pcells 18 := ⟨pcells_size, fun k => (inferInstance : SizeIs (pcells k) 18).one⟩
instance : Deep Pfx := Deep.flat pcells 18
instance : FlatT Pfx pcells 18 := ⟨rfl, fun _ => rfl⟩
instance : Plain Pfx := ⟨fun _ => rfl⟩
instance : Plain Rt := ⟨fun _ => rfl⟩
instance op48 : OpenT Try.prog 48 Key := ⟨by kernel_rfl, fun h hw => by
  obtain ⟨hl, he⟩ := open_elem Try.underlying48 h hw UInt8
  rw [show Try.prog.cellsOf 48 = 16 from by kernel_rfl] at hl
  obtain ⟨l, hll, hlp⟩ := list_of (p := fun i (x : UInt8) => _) he
  refine ⟨kof fun i => (l.getD i 0).toNat, ?_, trivial⟩
  refine List.ext_getElem? fun i => ?_
  rw [Array.getElem?_toList]
  rcases Nat.lt_or_ge i 16 with hi | hi
  · have hx : l[i]? = some (l.getD i 0) := get_getD (by omega)
    have h1 := congrArg (·[0]?) (hlp i _ hx).1
    simp only [List.getElem?_take, List.getElem?_drop] at h1
    rw [if_pos (by decide), show i * Deep.c UInt8 + 0 = i from Nat.mul_one i] at h1
    have h3 : some (Value.int .u8 (l.getD i 0).toNat) = _ := h1
    have e8 : (l.getD i 0).toNat % 2 ^ 8 = (l.getD i 0).toNat := Nat.mod_eq_of_lt (l.getD i 0).toNat_lt
    show (kcells _)[i]? = _
    rw [kcells_get _ _ hi, kbyte_kof _ _ hi, e8, ← h3]
  · show (kcells _)[i]? = _
    rw [kcells_none _ _ hi, List.getElem?_eq_none (by omega)]⟩
instance op50 : OpenT Try.prog 50 Pfx := ⟨by kernel_rfl, fun h hw => by
  obtain ⟨hl, x0, h0, -⟩ := open_field Try.underlying50 h hw (i := 0) (tf := 3) (off := 0) rfl Int
  obtain ⟨-, x1, h1, -⟩ := open_field Try.underlying50 h hw (i := 1) (tf := 3) (off := 1) rfl Int
  obtain ⟨-, x2, h2, -⟩ := open_field Try.underlying50 h hw (i := 2) (tf := 48) (off := 2) rfl Key
  refine ⟨⟨x0, x1, x2⟩, ?_, trivial⟩
  refine Eq.trans ?_ (cut3 (a := 1) (b := 1) (c := 16) (hl.trans (by kernel_rfl)))
  rw [show (Deep.cells (⟨x0, x1, x2⟩ : Pfx)).toList = (Deep.cells x0).toList ++ (Deep.cells x1).toList ++ (Deep.cells x2).toList from by show (pcells _).toList = _; unfold pcells; rw [Array.toList_append]; rfl, h0, h1, h2]
  rfl⟩
instance op82 : OpenT Try.prog 82 Rt := ⟨by kernel_rfl, fun h hw => by
  obtain ⟨hl, x0, h0, -⟩ := open_field Try.underlying82 h hw (i := 0) (tf := 50) (off := 0) rfl Pfx
  obtain ⟨-, x1, h1, -⟩ := open_field Try.underlying82 h hw (i := 1) (tf := 22) (off := 18) rfl UInt16
  refine ⟨⟨x0, x1⟩, ?_, trivial⟩
  refine Eq.trans ?_ (cut2 (a := 18) (b := 1) (hl.trans (by kernel_rfl)))
  rw [show (Deep.cells (⟨x0, x1⟩ : Rt)).toList = (Deep.cells x0).toList ++ (Deep.cells x1).toList from by show (rcells _).toList = _; unfold rcells; rw [Array.toList_append]; rfl, h0, h1]
  rfl⟩


instance op30 : OpenT Try.prog 30 (Sl UInt8) := open_sl Try.underlying30 (by kernel_rfl) (by decide) (by kernel_rfl)
instance op62 : OpenT Try.prog 62 (Sl Rt) := open_sl Try.underlying62 (by kernel_rfl) (by decide) (by kernel_rfl)
instance op63 : OpenT Try.prog 63 (Sl (Sl UInt8)) := open_sl Try.underlying63 (by kernel_rfl) (by decide) (by kernel_rfl)
instance op95 : OpenT Try.prog 95 (Sl Int) := open_sl Try.underlying95 (by kernel_rfl) (by decide) (by kernel_rfl)
instance op97 : OpenT Try.prog 97 (Sl Bool) := open_sl Try.underlying97 (by kernel_rfl) (by decide) (by kernel_rfl)

end Go.Proofs.Ytembaconocgmlaa
