/- The law NodeRight holds: the bytes of any node, and the node of any bytes, are what the document says; so are many. It holds of all arguments that can be read; its arguments read behind the call as they did. -/
import Derived.Test.YtembaconocgmlaaRows
import Derived.Test.YtembaconocgmlaaMe
import Derived.Test.YtembaconocgmlaaN8m

set_option linter.unusedSimpArgs false
set_option linter.unusedVariables false
namespace Go.Proofs.Ytembaconocgmlaa
open Go.Eng Go.Kb Go.ChangeShapes Go.WideShapes Go.ChangeAt Go.RowKit

theorem Try.own : ownKnob Try.prog.godebug = none := by kernel_rfl
theorem Try.laidOut : laidOutB Try.prog = true := by kernel_rfl
set_option maxRecDepth 100000 in
theorem nodeRight_call {H : Type} {enc : TypeId × Value → H} (W : World) (base : Nat) (vs : List Value) (hl : vs.length = 3) (h : ∀ (j : Nat) t v, Try.f4.params[j]? = some t → vs[j]? = some v → Arg H enc Try.prog W base t v) :
    Calls Try.prog 4 vs.toArray W fun e W' => e = .returned (.bool true) ∧ Mem W [] W' := by
  rw [Try.params4] at h
  obtain ⟨v0, v1, v2, rfl⟩ := list3 hl
  obtain ⟨x0, rfl, -⟩ := (h 0 28 v0 rfl rfl).agg (inferInstance : RowT Try.prog 28 _) Nd
  obtain ⟨x1, rfl, g1⟩ := (h 1 38 v1 rfl rfl).sl Try.underlying38 Nd
  obtain ⟨x2, rfl, g2⟩ := (h 2 30 v2 rfl rfl).sl Try.underlying30 UInt8
  exact nodeRight_c W x0 x1.sv x1.xs x2.sv x2.xs g1.1 g2.1
set_option maxRecDepth 100000 in
theorem nodeRight_lifted (os : Os) (started : os.Started) (H : Type) (enc : TypeId × Value → H) :
    ReturnsInHanded {} Try.checked os 4 .any (Rows.nodeRightSpec.pre6 enc Try.prog Try.f4 Rows.nodeRightRow.domain false) (Rows.nodeRightSpec.post enc Try.prog Try.f4 false true false false) :=
  lifted_true2 (C := Try.checked) Try.own started (by kernel_rfl) Try.func4
    (ChangeSpec.witness6 (enc := enc) (C := Try.checked) false ⟨#[], #[.agg #[.int .i64 0, .int .u16 0, .int .i64 0, .int .u16 0, .int .i64 0, .int .u16 0, .int .i64 0, .int .u16 0, .int .i64 0, .int .u16 0, .int .i64 0, .int .u16 0, .int .i64 0, .int .u16 0, .int .i64 0, .int .u16 0, .int .i64 0, .int .u16 0, .int .i64 0, .int .u16 0, .int .i64 0, .int .u16 0, .int .i64 0, .int .u16 0, .int .i64 0, .int .u16 0, .int .i64 0, .int .u16 0, .int .i64 0, .int .u16 0, .int .i64 0, .int .u16 0, .int .i64 0, .int .i64 0, .int .i64 0, .int .i64 0, .int .i64 0, .int .i64 0, .int .i64 0, .int .i64 0, .int .i64 0, .int .i64 0, .int .i64 0, .int .i64 0, .int .i64 0, .int .i64 0, .int .i64 0, .int .i64 0], .slice none 0 0, .slice none 0 0], []⟩ 24 (by kernel_rfl) (by kernel_rfl) (by kernel_rfl) (by kernel_rfl))
    Try.laidOut (by kernel_rfl) rfl Try.underlying4 rfl (fun ds hd => by obtain ⟨d0, d1, d2, rfl⟩ := list3 (hd.trans (by kernel_rfl)); rfl)
    (fun W base vs hl h => nodeRight_call W base vs (hl.trans (by kernel_rfl)) h)
theorem nodeRight_holds : Rows.NodeRightSaid :=
  OpenClaim.holds_of_wide 4 Try.f4 rfl rfl rfl rfl rfl rfl rfl ⟨rfl, rfl, rfl, rfl, rfl⟩ rfl rfl rfl rfl rfl (by kernel_rfl) Try.func4 (by kernel_rfl)
    (of_decide_eq_true (by kernel_rfl)) (by unfold Func.isWrapper; first | (rw [if_pos (by decide +kernel)]; kernel_rfl) | (rw [if_neg (by decide +kernel)]; exact ⟨rfl, rfl⟩))
    (fun os started H enc _ => nodeRight_lifted os started H enc)

end Go.Proofs.Ytembaconocgmlaa

