/- The law PackRight holds: any table has the bodies, and any bodies the table, that the document says; so with what changed, and how many routes there may be. It holds of all arguments that can be read; its arguments read behind the call as they did. -/
import Derived.Test.YtembaconocgmlaaRows
import Derived.Test.YtembaconocgmlaaOpI
import Derived.Test.YtembaconocgmlaaP2i
set_option linter.unusedSimpArgs false
set_option linter.unusedVariables false
namespace Go.Proofs.Ytembaconocgmlaa
open Go.Eng Go.Kb Go.ChangeShapes Go.WideShapes Go.ChangeAt Go.RowKit

theorem Try.own : ownKnob Try.prog.godebug = none := by kernel_rfl
theorem Try.laidOut : laidOutB Try.prog = true := by kernel_rfl
set_option maxRecDepth 100000 in
theorem packRight_call {H : Type} {enc : TypeId × Value → H} (W : World) (base : Nat) (vs : List Value) (hl : vs.length = 5) (h : ∀ (j : Nat) t v, Try.f10.params[j]? = some t → vs[j]? = some v → Arg H enc Try.prog W base t v) :
    Calls Try.prog 10 vs.toArray W fun e W' => e = .returned (.bool true) ∧ Mem W [] W' := by
  rw [Try.params10] at h
  obtain ⟨v0, v1, v2, v3, v4, rfl⟩ := list5 hl
  obtain ⟨x0, rfl, g0⟩ := (h 0 62 v0 rfl rfl).sl Try.underlying62 Rt
  obtain ⟨x1, rfl, b1⟩ := int_of_okWide (t := 3) Try.underlying3 (h 1 3 v1 rfl rfl).ok
  obtain ⟨x2, rfl, b2⟩ := int_of_okWide (t := 3) Try.underlying3 (h 2 3 v2 rfl rfl).ok
  obtain ⟨x3, rfl, g3⟩ := (h 3 63 v3 rfl rfl).sl Try.underlying63 (Sl UInt8)
  obtain ⟨x4, rfl, g4⟩ := (h 4 63 v4 rfl rfl).sl Try.underlying63 (Sl UInt8)
  exact packRight_c W x0.sv x0.xs x1 x2 x3 x4 g0.1 g3 g4 (fun x hx => (g4.2 x hx).1.bd)
set_option maxRecDepth 100000 in
theorem packRight_lifted (os : Os) (started : os.Started) (H : Type) (enc : TypeId × Value → H) :
    ReturnsInHanded {} Try.checked os 10 .any (Rows.packRightSpec.pre6 enc Try.prog Try.f10 Rows.packRightRow.domain false) (Rows.packRightSpec.post enc Try.prog Try.f10 false true false false) :=
  lifted_true2 (C := Try.checked) Try.own started (by kernel_rfl) Try.func10
    (ChangeSpec.witness6 (enc := enc) (C := Try.checked) false ⟨#[], #[.slice none 0 0, .int .i64 0, .int .i64 0, .slice none 0 0, .slice none 0 0], []⟩ 24 (by kernel_rfl) (by kernel_rfl) (by kernel_rfl) (by kernel_rfl))
    Try.laidOut (by kernel_rfl) rfl Try.underlying4 rfl (fun ds hd => by obtain ⟨d0, d1, d2, d3, d4, rfl⟩ := list5 (hd.trans (by kernel_rfl)); rfl)
    (fun W base vs hl h => packRight_call W base vs (hl.trans (by kernel_rfl)) h)
theorem packRight_holds : Rows.PackRightSaid :=
  OpenClaim.holds_of_wide 10 Try.f10 rfl rfl rfl rfl rfl rfl rfl ⟨rfl, rfl, rfl, rfl, rfl⟩ rfl rfl rfl rfl rfl (by kernel_rfl) Try.func10 (by kernel_rfl)
    (of_decide_eq_true (by kernel_rfl)) (by unfold Func.isWrapper; first | (rw [if_pos (by decide +kernel)]; kernel_rfl) | (rw [if_neg (by decide +kernel)]; exact ⟨rfl, rfl⟩))
    (fun os started H enc _ => packRight_lifted os started H enc)

end Go.Proofs.Ytembaconocgmlaa
