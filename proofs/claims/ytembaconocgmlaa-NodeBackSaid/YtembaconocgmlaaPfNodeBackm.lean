/- The law NodeBack holds: a trie of a table is put, and read as it was; what is read is put so. It holds of all arguments that can be read; its arguments read behind the call as they did. -/
import Derived.Test.YtembaconocgmlaaRows
import Derived.Test.YtembaconocgmlaaMe
import Derived.Test.YtembaconocgmlaaN9m

set_option linter.unusedSimpArgs false
set_option linter.unusedVariables false
namespace Go.Proofs.Ytembaconocgmlaa
open Go.Eng Go.Kb Go.ChangeShapes Go.WideShapes Go.ChangeAt Go.RowKit

theorem Try.own : ownKnob Try.prog.godebug = none := by kernel_rfl
theorem Try.laidOut : laidOutB Try.prog = true := by kernel_rfl
set_option maxRecDepth 100000 in
theorem nodeBack_call {H : Type} {enc : TypeId × Value → H} (W : World) (base : Nat) (vs : List Value) (hl : vs.length = 3) (h : ∀ (j : Nat) t v, Try.f16.params[j]? = some t → vs[j]? = some v → Arg H enc Try.prog W base t v) :
    Calls Try.prog 16 vs.toArray W fun e W' => e = .returned (.bool true) ∧ Mem W [] W' := by
  rw [Try.params16] at h
  obtain ⟨v0, v1, v2, rfl⟩ := list3 hl
  obtain ⟨x0, rfl, g0⟩ := (h 0 62 v0 rfl rfl).sl Try.underlying62 Rt
  obtain ⟨x1, rfl, b1⟩ := int_of_okWide (t := 3) Try.underlying3 (h 1 3 v1 rfl rfl).ok
  obtain ⟨x2, rfl, g2⟩ := (h 2 30 v2 rfl rfl).sl Try.underlying30 UInt8
  exact nodeBack_c W x0.sv x0.xs x1 x2.sv x2.xs g0.1 g2.1
set_option maxRecDepth 100000 in
theorem nodeBack_lifted (os : Os) (started : os.Started) (H : Type) (enc : TypeId × Value → H) :
    ReturnsInHanded {} Try.checked os 16 .any (Rows.nodeBackSpec.pre6 enc Try.prog Try.f16 Rows.nodeBackRow.domain false) (Rows.nodeBackSpec.post enc Try.prog Try.f16 false true false false) :=
  lifted_true2 (C := Try.checked) Try.own started (by kernel_rfl) Try.func16
    (ChangeSpec.witness6 (enc := enc) (C := Try.checked) false ⟨#[], #[.slice none 0 0, .int .i64 0, .slice none 0 0], []⟩ 24 (by kernel_rfl) (by kernel_rfl) (by kernel_rfl) (by kernel_rfl))
    Try.laidOut (by kernel_rfl) rfl Try.underlying4 rfl (fun ds hd => by obtain ⟨d0, d1, d2, rfl⟩ := list3 (hd.trans (by kernel_rfl)); rfl)
    (fun W base vs hl h => nodeBack_call W base vs (hl.trans (by kernel_rfl)) h)
theorem nodeBack_holds : Rows.NodeBackSaid :=
  OpenClaim.holds_of_wide 16 Try.f16 rfl rfl rfl rfl rfl rfl rfl ⟨rfl, rfl, rfl, rfl, rfl⟩ rfl rfl rfl rfl rfl (by kernel_rfl) Try.func16 (by kernel_rfl)
    (of_decide_eq_true (by kernel_rfl)) (by unfold Func.isWrapper; first | (rw [if_pos (by decide +kernel)]; kernel_rfl) | (rw [if_neg (by decide +kernel)]; exact ⟨rfl, rfl⟩))
    (fun os started H enc _ => nodeBack_lifted os started H enc)

end Go.Proofs.Ytembaconocgmlaa

