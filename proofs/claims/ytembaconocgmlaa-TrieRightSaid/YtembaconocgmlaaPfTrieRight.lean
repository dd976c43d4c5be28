/- The law TrieRight holds: any table as a trie is what the document says. It holds of all arguments that can be read; its arguments read behind the call as they did. -/
import Derived.Test.YtembaconocgmlaaRows
import Derived.Test.YtembaconocgmlaaOpI
import Derived.Test.YtembaconocgmlaaT3p
set_option linter.unusedSimpArgs false
set_option linter.unusedVariables false
namespace Go.Proofs.Ytembaconocgmlaa
open Go.Eng Go.Kb Go.ChangeShapes Go.WideShapes Go.ChangeAt Go.RowKit

theorem Try.own : ownKnob Try.prog.godebug = none := by kernel_rfl
theorem Try.laidOut : laidOutB Try.prog = true := by kernel_rfl
set_option maxRecDepth 100000 in
theorem trieRight_call {H : Type} {enc : TypeId × Value → H} (W : World) (base : Nat) (vs : List Value) (hl : vs.length = 2) (h : ∀ (j : Nat) t v, Try.f13.params[j]? = some t → vs[j]? = some v → Arg H enc Try.prog W base t v) :
    Calls Try.prog 13 vs.toArray W fun e W' => e = .returned (.bool true) ∧ Mem W [] W' := by
  rw [Try.params13] at h
  obtain ⟨v0, v1, rfl⟩ := list2 hl
  obtain ⟨x0, rfl, g0⟩ := (h 0 62 v0 rfl rfl).sl Try.underlying62 Rt
  obtain ⟨x1, rfl, b1⟩ := int_of_okWide (t := 3) Try.underlying3 (h 1 3 v1 rfl rfl).ok
  exact trieRight_c W x0.sv x0.xs x1 g0.1
set_option maxRecDepth 100000 in
theorem trieRight_lifted (os : Os) (started : os.Started) (H : Type) (enc : TypeId × Value → H) :
    ReturnsInHanded {} Try.checked os 13 .any (Rows.trieRightSpec.pre6 enc Try.prog Try.f13 Rows.trieRightRow.domain false) (Rows.trieRightSpec.post enc Try.prog Try.f13 false true false false) :=
  lifted_true2 (C := Try.checked) Try.own started (by kernel_rfl) Try.func13
    (ChangeSpec.witness6 (enc := enc) (C := Try.checked) false ⟨#[], #[.slice none 0 0, .int .i64 0], []⟩ 24 (by kernel_rfl) (by kernel_rfl) (by kernel_rfl) (by kernel_rfl))
    Try.laidOut (by kernel_rfl) rfl Try.underlying4 rfl (fun ds hd => by obtain ⟨d0, d1, rfl⟩ := list2 (hd.trans (by kernel_rfl)); rfl)
    (fun W base vs hl h => trieRight_call W base vs (hl.trans (by kernel_rfl)) h)
theorem trieRight_holds : Rows.TrieRightSaid :=
  OpenClaim.holds_of_wide 13 Try.f13 rfl rfl rfl rfl rfl rfl rfl ⟨rfl, rfl, rfl, rfl, rfl⟩ rfl rfl rfl rfl rfl (by kernel_rfl) Try.func13 (by kernel_rfl)
    (of_decide_eq_true (by kernel_rfl)) (by unfold Func.isWrapper; first | (rw [if_pos (by decide +kernel)]; kernel_rfl) | (rw [if_neg (by decide +kernel)]; exact ⟨rfl, rfl⟩))
    (fun os started H enc _ => trieRight_lifted os started H enc)

end Go.Proofs.Ytembaconocgmlaa
