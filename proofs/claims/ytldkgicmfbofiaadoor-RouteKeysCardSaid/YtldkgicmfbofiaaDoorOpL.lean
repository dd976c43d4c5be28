/- What the rows' laid variables give; arguments opened. -/
import Derived.Test.YtldkgicmfbofiaaDoorRows
import Derived.Test.YtldkgicmfbofiaaDoorRI
import Derived.Test.YtldkgicmfbofiaaDoorLf
import Derived.Test.YtldkgicmfbofiaaDoorOp
import Derived.Test.YtldkgicmfbofiaaDoorRinst
import Derived.Test.YtldkgicmfbofiaaDoorDt
import Derived.Lib.LaidTab
import Derived.Lib.LaidU8
set_option linter.unusedSimpArgs false
set_option linter.unusedVariables false
namespace Go.Proofs.YtldkgicmfbofiaaDoor
open Go.Eng Go.Kb Go.ChangeShapes Go.WideShapes Go.ChangeAt Go.RowKit
instance op2 : OpenT Tryd.prog 2 Int := open_i64 Tryd.underlying2 (by kernel_rfl)
instance op3 : OpenT Tryd.prog 3 Int := open_i64 Tryd.underlying3 (by kernel_rfl)
instance op4 : OpenT Tryd.prog 4 Bool := open_bool Tryd.underlying4 (by kernel_rfl)
instance op5 : OpenT Tryd.prog 5 UInt8 := open_u8 Tryd.underlying5 (by kernel_rfl)
instance op6 : OpenT Tryd.prog 6 UInt8 := open_u8 Tryd.underlying6 (by kernel_rfl)
instance op26 : OpenT Tryd.prog 26 UInt16 := open_u16 Tryd.underlying26 (by kernel_rfl)
instance op30 : OpenT Tryd.prog 30 Int := open_i64 Tryd.underlying30 (by kernel_rfl)
instance op122 : OpenT Tryd.prog 122 UInt8 := open_u8 Tryd.underlying122 (by kernel_rfl)
instance op123 : OpenT Tryd.prog 123 UInt8 := open_u8 Tryd.underlying123 (by kernel_rfl)

instance : Enc kcells 16 := ⟨kcells_size, fun k => (inferInstance : SizeIs (kcells k) 16).one⟩
instance : Deep Key := Deep.flat kcells 16
instance : FlatT Key kcells 16 := ⟨rfl, fun _ => rfl⟩
instance : Plain Key := ⟨fun _ => rfl⟩
instance : Enc pcells 18 := ⟨pcells_size, fun k => (inferInstance : SizeIs (pcells k) 18).one⟩
instance : Deep Pfx := Deep.flat pcells 18
instance : FlatT Pfx pcells 18 := ⟨rfl, fun _ => rfl⟩
instance : Plain Pfx := ⟨fun _ => rfl⟩
instance : Plain Rt := ⟨fun _ => rfl⟩
instance op23 : OpenT Tryd.prog 23 Key := ⟨by kernel_rfl, fun h hw => by
  obtain ⟨hl, he⟩ := open_elem Tryd.underlying23 h hw UInt8
  rw [show Tryd.prog.cellsOf 23 = 16 from by kernel_rfl] at hl
  obtain ⟨l, hll, hlp⟩ := list_of (p := fun i (x : UInt8) => _) he
  refine ⟨kof fun i => (l.getD i 0).toNat, ?_, trivial⟩
  refine List.ext_getElem? fun i => ?_
  rw [Array.getElem?_toList]
  rcases Nat.lt_or_ge i 16 with hi | hi
  · have hx : l[i]? = some (l.getD i 0) := get_getD (by omega)
    have h1 := congrArg (·[0]?) (hlp i _ hx).1
    simp only [List.getElem?_take, List.getElem?_drop] at h1
    rw [if_pos (by decide), show i * Deep.c UInt8 + 0 = i from Nat.mul_one i] at h1
    have h3 : some (Value.int .u8 (l.getD i 0).toNat) = _ := h1
    have e8 : (l.getD i 0).toNat % 2 ^ 8 = (l.getD i 0).toNat := Nat.mod_eq_of_lt (l.getD i 0).toNat_lt
    show (kcells _)[i]? = _
    rw [kcells_get _ _ hi, kbyte_kof _ _ hi, e8, ← h3]
  · show (kcells _)[i]? = _
    rw [kcells_none _ _ hi, List.getElem?_eq_none (by omega)]⟩
instance op25 : OpenT Tryd.prog 25 Pfx := ⟨by kernel_rfl, fun h hw => by
  obtain ⟨hl, x0, h0, -⟩ := open_field Tryd.underlying25 h hw (i := 0) (tf := 3) (off := 0) rfl Int
  obtain ⟨-, x1, h1, -⟩ := open_field Tryd.underlying25 h hw (i := 1) (tf := 3) (off := 1) rfl Int
  obtain ⟨-, x2, h2, -⟩ := open_field Tryd.underlying25 h hw (i := 2) (tf := 23) (off := 2) rfl Key
  refine ⟨⟨x0, x1, x2⟩, ?_, trivial⟩
  refine Eq.trans ?_ (cut3 (a := 1) (b := 1) (c := 16) (hl.trans (by kernel_rfl)))
  rw [show (Deep.cells (⟨x0, x1, x2⟩ : Pfx)).toList = (Deep.cells x0).toList ++ (Deep.cells x1).toList ++ (Deep.cells x2).toList from by show (pcells _).toList = _; unfold pcells; rw [Array.toList_append]; rfl, h0, h1, h2]
  rfl⟩
instance op28 : OpenT Tryd.prog 28 Rt := ⟨by kernel_rfl, fun h hw => by
  obtain ⟨hl, x0, h0, -⟩ := open_field Tryd.underlying28 h hw (i := 0) (tf := 25) (off := 0) rfl Pfx
  obtain ⟨-, x1, h1, -⟩ := open_field Tryd.underlying28 h hw (i := 1) (tf := 26) (off := 18) rfl UInt16
  refine ⟨⟨x0, x1⟩, ?_, trivial⟩
  refine Eq.trans ?_ (cut2 (a := 18) (b := 1) (hl.trans (by kernel_rfl)))
  rw [show (Deep.cells (⟨x0, x1⟩ : Rt)).toList = (Deep.cells x0).toList ++ (Deep.cells x1).toList from by show (rcells _).toList = _; unfold rcells; rw [Array.toList_append]; rfl, h0, h1]
  rfl⟩



def laidL : List (String × DataW Unit) := [("math/bits.deBruijn32tab", Rows.laid_math_bits_deBruijn32tab), ("math/bits.deBruijn64tab", Rows.laid_math_bits_deBruijn64tab), ("internal/strconv.uint64pow10", Rows.laid_internal_strconv_uint64pow10), ("unicode/utf8.acceptRanges", Rows.laid_unicode_utf8_acceptRanges), ("unicode/utf8.first", Rows.laid_unicode_utf8_first)]
theorem pow_glob : ∃ g, Tryd.prog.globalNamed "internal/strconv.uint64pow10" = some g ∧ (Tryd.prog.globals[g]?).map (·.type) = some 100 := ⟨Option.get (Tryd.prog.globalNamed "internal/strconv.uint64pow10") (by kernel_rfl), by kernel_rfl, by kernel_rfl⟩
theorem pow_of_laid {W : World} (h : laidMetH Tryd.prog laidL W) : Lib.TabIs Tryd.prog W "internal/strconv.uint64pow10" .u64 Lib.pow10Tab := by
  rw [MakeChecks.laidMetH_plain _ _ _ (by kernel_rfl)] at h
  obtain ⟨g', t', cs, fuel, p, hg', ht', hvar, hd⟩ := Lib.laidMet.reads h (n := "internal/strconv.uint64pow10") (d := Lib.tabData .u64 Lib.pow10Tab) (.tail _ (.tail _ (.head _)))
  obtain ⟨g, pow_named, pow_type⟩ := pow_glob
  obtain rfl := Option.some.inj (pow_named.symm.trans hg')
  obtain rfl := Option.some.inj (pow_type.symm.trans ht')
  unfold Lib.TabIs
  rw [hvar, ← Lib.cells_of_tab Tryd.underlying100 Tryd.underlying89 (by kernel_rfl) (by kernel_rfl) hd]
theorem tabs_of {W : World} (hs : W.ShapedOpen Tryd.prog) (h : laidMetH Tryd.prog laidL W) : Tabs W := ⟨pow_of_laid h, Tryd.laysM146.s1_3 W hs⟩
theorem Tryd.own : ownKnob Tryd.prog.godebug = none := by kernel_rfl
theorem Tryd.laidOut : laidOutB Tryd.prog = true := by kernel_rfl

end Go.Proofs.YtldkgicmfbofiaaDoor
