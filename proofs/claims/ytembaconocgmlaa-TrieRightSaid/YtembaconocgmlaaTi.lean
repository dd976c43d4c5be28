/- Nodes, ways and tries as cells of this program. -/
import Derived.Test.YtembaconocgmlaaTl
import Derived.Test.YtembaconocgmlaaRinst
import Derived.Test.YtembaconocgmlaaOld
set_option linter.unusedSimpArgs false
set_option linter.unusedVariables false
namespace Go.Proofs.Ytembaconocgmlaa
open Go.Eng Go.Kb

instance : ZeroT Try.prog 28 (.agg (ncells Nd.zero)) := ⟨by kernel_rfl⟩
instance : ZeroT Try.prog 24 (.agg (slcells Slt.no)) := ⟨by kernel_rfl⟩
instance : ZeroT Try.prog 86 (.agg (tcells ⟨0, ⟨Sv.none, []⟩⟩)) := ⟨by kernel_rfl⟩
instance : ZeroT Try.prog 123 (.agg (tcells ⟨0, ⟨Sv.none, []⟩⟩)) := ⟨by kernel_rfl⟩
instance : ZeroT Try.prog 3 (.int .i64 0) := ⟨by kernel_rfl⟩
instance : ZeroT Try.prog 4 (.bool false) := ⟨by kernel_rfl⟩
theorem wroot : wcells root = #[.int .i64 0] ++ (List.replicate 16 (Value.int .u8 0)).toArray := by rw [wcells, root, kcells_zero]; rfl
instance : ZeroT Try.prog 128 (.agg (wcells root)) := ⟨by rw [wroot]; kernel_rfl⟩
instance : BuildT Try.prog 128 [] (.agg (wcells root)) := ⟨fun w => by rw [wroot]; kernel_rfl⟩
instance (n : Nat) (k : Key) : BuildT Try.prog 128 [(0, .int .i64 (n : Nat)), (1, .agg (kcells k))] (.agg (wcells ⟨n, k⟩)) := ⟨fun w => by kernel_rfl⟩
instance : BuildT Try.prog 28 [] (.agg (ncells Nd.zero)) := ⟨fun w => by kernel_rfl⟩
instance (n : Int) (h : UInt16) : BuildT Try.prog 24 [(0, .int .i64 n), (1, .int .u16 h.toNat)] (.agg (slcells ⟨n, h⟩)) := ⟨fun w => by kernel_rfl⟩
instance : BuildT Try.prog 86 [] (.agg (tcells ⟨0, ⟨Sv.none, []⟩⟩)) := ⟨fun w => by kernel_rfl⟩
instance (n : Int) : BuildT Try.prog 86 [(0, .int .i64 n)] (.agg (tcells ⟨n, ⟨Sv.none, []⟩⟩)) := ⟨fun w => by kernel_rfl⟩
theorem tri_build (n : Int) (s : Sv) (xs : List Nd) (w : World) : (Instr.build 86 #[(0, .int .i64 n), (1, s.val)]).run Try.prog w = .ok (.agg (tcells ⟨n, ⟨s, xs⟩⟩)) w := by
  unfold tcells
  obtain ⟨e, b, o, l, c, p⟩ := s
  cases e <;> kernel_rfl
instance (t : Tri) : BuildT Try.prog 123 [(0, .agg (tcells t))] (.agg (tcells t)) := ⟨fun w => by
  obtain ⟨n, ⟨⟨e, b, o, l, c, p⟩, xs⟩⟩ := t
  unfold tcells
  cases e <;> kernel_rfl⟩
theorem partSl (d : Nat) : PartT Try.prog (d + 1 + 1) 24 true ([0] ++ ([0] ++ [])) := ⟨⟨_, Try.underlying24, rfl⟩, by kernel_rfl, (fun h => by cases h),
  eqF_struct Try.underlying24 (by kernel_rfl) ⟨by decide, rfl, _, _, _, rfl, ⟨⟨_, Try.underlying3, rfl⟩, by kernel_rfl, fun _ => rfl, eqF_int Try.underlying3⟩, by decide, rfl, _, _, _, rfl, ⟨⟨_, Try.underlying22, rfl⟩, by kernel_rfl, fun _ => rfl, eqF_int Try.underlying22⟩, rfl⟩⟩
theorem partAS (d : Nat) : PartT Try.prog (d + 1 + 1 + 1) 25 true (List.replicate 16 ([0] ++ ([0] ++ []))).flatten := ⟨⟨_, Try.underlying25, rfl⟩, by kernel_rfl, (fun h => by cases h), eqF_arr Try.underlying25 (partSl d)⟩
theorem partAI (d : Nat) : PartT Try.prog (d + 1 + 1) 26 true (List.replicate 16 [0]).flatten := ⟨⟨_, Try.underlying26, rfl⟩, by kernel_rfl, (fun h => by cases h), eqF_arr Try.underlying26 ⟨⟨_, Try.underlying3, rfl⟩, by kernel_rfl, fun _ => rfl, eqF_int Try.underlying3⟩⟩
theorem stoodN : Try.prog.stoodInHeld 28 = false := by kernel_rfl
theorem partN (d : Nat) : PartT Try.prog (d + 1 + 1 + 1 + 1) 28 true ((List.replicate 16 ([0] ++ ([0] ++ []))).flatten ++ ((List.replicate 16 [0]).flatten ++ [])) := ⟨⟨_, Try.underlying28, rfl⟩, by kernel_rfl, (fun h => by cases h),
  eqF_struct Try.underlying28 stoodN ⟨by decide, rfl, _, _, _, rfl, partAS d, by decide, rfl, _, _, _, rfl, partAI (d + 1), rfl⟩⟩
theorem guardN : Try.prog.eqGuardType Try.prog.depth 28 = false := by kernel_rfl
instance (a b : Nd) : EqV Try.prog 28 (.agg (ncells a)) (.agg (ncells b)) (decide (a = b)) :=
  (partN 9996).eq.val rfl guardN (ncells_size a) (ncells_size b) (fun i k hk => by
    have h0 : k = 0 := by
      have : k ∈ ((List.replicate 16 ([0] ++ ([0] ++ []))).flatten ++ ((List.replicate 16 [0]).flatten ++ [])) := List.mem_of_getElem? hk
      simpa using this
    subst h0
    have hi : i < 48 := (List.getElem?_eq_some_iff.1 hk).1
    refine ⟨_, _, ncells_get a i hi, ncells_get b i hi, ?_⟩
    unfold ncell; split
    · split <;> rfl
    · rfl) (by rw [decide_eq_true_iff]; exact ⟨ncells_inj, fun h => by rw [h]⟩)
theorem stoodW : Try.prog.stoodInHeld 128 = false := by kernel_rfl
theorem partWK (d : Nat) : PartT Try.prog (d + 1 + 1) 48 true (List.replicate 16 [0]).flatten := ⟨⟨_, Try.underlying48, rfl⟩, by kernel_rfl, (fun h => by cases h), eqF_arr Try.underlying48 ⟨⟨_, Try.underlying5, rfl⟩, by kernel_rfl, fun _ => rfl, eqF_int Try.underlying5⟩⟩
theorem partW (d : Nat) : PartT Try.prog (d + 1 + 1 + 1) 128 true ([0] ++ ((List.replicate 16 [0]).flatten ++ [])) := ⟨⟨_, Try.underlying128, rfl⟩, by kernel_rfl, (fun h => by cases h),
  eqF_struct Try.underlying128 stoodW ⟨by decide, rfl, _, _, _, rfl, ⟨⟨_, Try.underlying3, rfl⟩, by kernel_rfl, fun _ => rfl, eqF_int Try.underlying3⟩, by decide, rfl, _, _, _, rfl, partWK d, rfl⟩⟩
theorem guardW : Try.prog.eqGuardType Try.prog.depth 128 = false := by kernel_rfl
instance (a b : Wy) : EqV Try.prog 128 (.agg (wcells a)) (.agg (wcells b)) (decide (a = b)) :=
  (partW 9997).eq.val rfl guardW (wcells_size a) (wcells_size b) (fun i k hk => by
    have h0 : k = 0 := by
      have : k ∈ ([0] ++ ((List.replicate 16 [0]).flatten ++ [])) := List.mem_of_getElem? hk
      simpa using this
    subst h0
    have hi : i < 17 := (List.getElem?_eq_some_iff.1 hk).1
    match i, hi with
    | 0, _ => exact ⟨_, _, wcells_0 a, wcells_0 b, rfl⟩
    | j + 1, hi => rw [Nat.add_comm j 1]; exact ⟨_, _, (wcells_k a j).trans (kcells_get _ j (by omega)), (wcells_k b j).trans (kcells_get _ j (by omega)), rfl⟩) (by rw [decide_eq_true_iff]; exact ⟨wcells_inj, fun h => by rw [h]⟩)

end Go.Proofs.Ytembaconocgmlaa
