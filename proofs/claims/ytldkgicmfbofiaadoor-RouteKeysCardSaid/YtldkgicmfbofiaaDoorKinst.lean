/- Keys and prefixes as cells of this program. -/
import Derived.Test.YtldkgicmfbofiaaDoorBase
import Derived.Test.YtldkgicmfbofiaaDoorEq
import Derived.Test.YtldkgicmfbofiaaDoorKey
set_option linter.unusedSimpArgs false
set_option linter.unusedVariables false
namespace Go.Proofs.YtldkgicmfbofiaaDoor
open Go.Eng Go.Kb

instance (k : Key) : SizeIs (kcells k) 16 := ⟨kcells_size k, by
  rw [Array.all_eq_true_iff_forall_mem]; intro v hv
  simp only [kcells, List.mem_toArray, List.mem_map] at hv
  obtain ⟨i, _, rfl⟩ := hv; rfl⟩
instance (p : Pfx) : SizeIs (pcells p) 18 := ⟨pcells_size p, by
  have h : (kcells p.key).all (·.oneCell') = true := (inferInstance : SizeIs (kcells p.key) 16).one
  rw [pcells, Array.all_append, h]; simp [Value.oneCell']⟩
instance (p : Pfx) : CellAt (pcells p) 0 (.int .i64 p.bits) := ⟨pcells_0 p⟩
instance (p : Pfx) : CellAt (pcells p) 1 (.int .i64 p.len) := ⟨pcells_1 p⟩
instance (p : Pfx) : PartAt (pcells p) 2 16 (kcells p.key) := ⟨kcells_size _, fun j _ => pcells_k p j⟩

theorem part5 (d : Nat) : PartT Tryd.prog (d + 1) 5 false [0] := ⟨⟨_, Tryd.underlying5, rfl⟩, by kernel_rfl, fun _ => rfl, eqF_int Tryd.underlying5⟩
theorem part3 (d : Nat) : PartT Tryd.prog (d + 1) 3 false [0] := ⟨⟨_, Tryd.underlying3, rfl⟩, by kernel_rfl, fun _ => rfl, eqF_int Tryd.underlying3⟩
theorem partK (d : Nat) : PartT Tryd.prog (d + 1 + 1) 23 true (List.replicate 16 [0]).flatten := ⟨⟨_, Tryd.underlying23, rfl⟩, by kernel_rfl, (fun h => by cases h), eqF_arr Tryd.underlying23 (part5 d)⟩
theorem stoodX : Tryd.prog.stoodInHeld 25 = false := by kernel_rfl
theorem partX (d : Nat) : PartT Tryd.prog (d + 1 + 1 + 1) 25 true ([0] ++ ([0] ++ ((List.replicate 16 [0]).flatten ++ []))) := ⟨⟨_, Tryd.underlying25, rfl⟩, by kernel_rfl, (fun h => by cases h),
  eqF_struct Tryd.underlying25 stoodX ⟨by decide, rfl, _, _, _, rfl, part3 _, by decide, rfl, _, _, _, rfl, part3 _, by decide, rfl, _, _, _, rfl, partK _, rfl⟩⟩
theorem guardK : Tryd.prog.eqGuardType Tryd.prog.depth 23 = false := by kernel_rfl
theorem guardX : Tryd.prog.eqGuardType Tryd.prog.depth 25 = false := by kernel_rfl
instance (a b : Key) : EqV Tryd.prog 23 (.agg (kcells a)) (.agg (kcells b)) (decide (a = b)) :=
  (partK 9998).eq.val rfl guardK (kcells_size a) (kcells_size b) (fun i k hk => by
    have hi : i < 16 := (List.getElem?_eq_some_iff.1 hk).1
    have h0 : k = 0 := by
      have : k ∈ (List.replicate 16 [0]).flatten := List.mem_of_getElem? hk
      simpa using this
    subst h0
    exact ⟨_, _, kcells_get a i hi, kcells_get b i hi, rfl⟩) (by rw [decide_eq_true_iff]; exact ⟨kcells_inj, fun h => by rw [h]⟩)
instance (a b : Pfx) : EqV Tryd.prog 25 (.agg (pcells a)) (.agg (pcells b)) (decide (a = b)) :=
  (partX 9997).eq.val rfl guardX (pcells_size a) (pcells_size b) (fun i k hk => by
    have h0 : k = 0 := by
      have : k ∈ ([0] ++ ([0] ++ ((List.replicate 16 [0]).flatten ++ []))) := List.mem_of_getElem? hk
      simpa using this
    subst h0
    have hi : i < 18 := (List.getElem?_eq_some_iff.1 hk).1
    match i, hi with
    | 0, _ => exact ⟨_, _, pcells_0 a, pcells_0 b, rfl⟩
    | 1, _ => exact ⟨_, _, pcells_1 a, pcells_1 b, rfl⟩
    | j + 2, hi => rw [Nat.add_comm j 2]; exact ⟨_, _, (pcells_k a j).trans (kcells_get _ j (by omega)), (pcells_k b j).trans (kcells_get _ j (by omega)), rfl⟩) (by rw [decide_eq_true_iff]; exact ⟨pcells_inj, fun h => by rw [h]⟩)
theorem kcells_zero : kcells 0#128 = (List.replicate 16 (Value.int .u8 0)).toArray := by
  apply Array.ext'
  simp only [kcells]
  refine List.eq_replicate_iff.2 ⟨by simp, fun v hv => ?_⟩
  simp only [List.mem_map] at hv
  obtain ⟨i, _, rfl⟩ := hv
  simp [kbyte]
instance (n m : Int) (k : Key) : BuildT Tryd.prog 25 [(0, .int .i64 n), (1, .int .i64 m), (2, .agg (kcells k))] (.agg (pcells ⟨n, m, k⟩)) := ⟨fun w => by kernel_rfl⟩
instance : ZeroT Tryd.prog 23 (.agg (kcells 0#128)) := ⟨by rw [kcells_zero]; kernel_rfl⟩
instance : ZeroT Tryd.prog 25 (.agg (pcells ⟨0, 0, 0#128⟩)) := ⟨by unfold pcells; rw [kcells_zero]; kernel_rfl⟩

end Go.Proofs.YtldkgicmfbofiaaDoor
