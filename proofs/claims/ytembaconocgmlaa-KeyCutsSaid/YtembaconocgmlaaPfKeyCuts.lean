/- The law KeyCuts over keys holds: it yields true whatever its arguments, and its arguments read behind the call as they did. -/
import Derived.Test.YtembaconocgmlaaRows
import Derived.Test.YtembaconocgmlaaRow
import Derived.Test.YtembaconocgmlaaLaw1
namespace Go.Proofs.Ytembaconocgmlaa
open Go.Eng Go.Kb Go.ChangeShapes Go.WideShapes Go.ChangeAt Go.RowKit

theorem Try.own : ownKnob Try.prog.godebug = none := by kernel_rfl
theorem Try.laidOut : laidOutB Try.prog = true := by kernel_rfl

set_option maxRecDepth 100000 in
theorem keyCuts_call (W : World) (base : Nat) (vs : List Value) (hl : vs.length = 3) (h : ∀ (j : Nat) t v, Try.f8.params[j]? = some t → vs[j]? = some v → Value.okWide Try.prog W .any base t v) :
    Calls Try.prog 8 vs.toArray W fun e W' => e = .returned (.bool true) ∧ Mem W [] W' := by
  rw [Try.params8] at h
  obtain ⟨v0, v1, v2, rfl⟩ := list3 hl
  obtain ⟨x0, rfl⟩ := key_of_okWide (t := 48) (e := 5) Try.underlying48 (by kernel_rfl) Try.underlying5 (by kernel_rfl) (h 0 48 v0 rfl rfl)
  obtain ⟨x1, hx1, rfl⟩ := u8_of_okWide (t := 5) Try.underlying5 (h 1 5 v1 rfl rfl)
  obtain ⟨x2, hx2, rfl⟩ := u8_of_okWide (t := 5) Try.underlying5 (h 2 5 v2 rfl rfl)
  exact (keyCuts_c x0 x1 x2 ⟨by omega, by omega⟩ ⟨by omega, by omega⟩).h W
set_option maxRecDepth 100000 in
theorem keyCuts_lifted (os : Os) (started : os.Started) (H : Type) (enc : TypeId × Value → H) :
    ReturnsInHanded {} Try.checked os 8 .any (Rows.keyCutsSpec.pre6 enc Try.prog Try.f8 Rows.keyCutsRow.domain false) (Rows.keyCutsSpec.post enc Try.prog Try.f8 false true false false) :=
  lifted_true (C := Try.checked) Try.own started (by kernel_rfl) Try.func8
    (ChangeSpec.witness6 (enc := enc) (C := Try.checked) false ⟨#[], #[.agg #[.int .u8 0, .int .u8 0, .int .u8 0, .int .u8 0, .int .u8 0, .int .u8 0, .int .u8 0, .int .u8 0, .int .u8 0, .int .u8 0, .int .u8 0, .int .u8 0, .int .u8 0, .int .u8 0, .int .u8 0, .int .u8 0], .int .u8 0, .int .u8 0], []⟩ 24 (by kernel_rfl) (by kernel_rfl) (by kernel_rfl) (by kernel_rfl))
    Try.laidOut (by kernel_rfl) rfl Try.underlying4 rfl (fun ds hd => by obtain ⟨d0, d1, d2, rfl⟩ := list3 (hd.trans (by kernel_rfl)); rfl)
    (fun W base vs hl h => keyCuts_call W base vs (hl.trans (by kernel_rfl)) h)
theorem keyCuts_holds : Rows.KeyCutsSaid :=
  OpenClaim.holds_of_wide 8 Try.f8 rfl rfl rfl rfl rfl rfl rfl ⟨rfl, rfl, rfl, rfl, rfl⟩ rfl rfl rfl rfl rfl (by kernel_rfl) Try.func8 (by kernel_rfl)
    (of_decide_eq_true (by kernel_rfl)) (by unfold Func.isWrapper; first | (rw [if_pos (by decide +kernel)]; kernel_rfl) | (rw [if_neg (by decide +kernel)]; exact ⟨rfl, rfl⟩))
    (fun os started H enc _ => keyCuts_lifted os started H enc)

end Go.Proofs.Ytembaconocgmlaa
