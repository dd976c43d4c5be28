/- Slices and routes as cells of this program. -/
import Derived.Test.YtldkgicmfbofiaaDoorKeyW
import Derived.Test.YtldkgicmfbofiaaDoorDp
import Derived.Test.YtldkgicmfbofiaaDoorRt
set_option linter.unusedSimpArgs false
set_option linter.unusedVariables false
namespace Go.Proofs.YtldkgicmfbofiaaDoor
open Go.Eng Go.Kb
instance zsT57 : ZeroT Tryd.prog 57 (.slice none 0 0) := ⟨by kernel_rfl⟩
instance slT57 : SlT Tryd.prog 57 9 1 16 := ⟨Tryd.underlying57, by kernel_rfl⟩
instance zsT58 : ZeroT Tryd.prog 58 (.slice none 0 0) := ⟨by kernel_rfl⟩
instance slT58 : SlT Tryd.prog 58 5 1 1 := ⟨Tryd.underlying58, by kernel_rfl⟩
instance : Enc rcells 19 := ⟨rcells_size, fun r => by
  have h : (pcells r.p).all (·.oneCell') = true := (inferInstance : SizeIs (pcells r.p) 18).one
  rw [rcells, Array.all_append, h]; simp [Value.oneCell']⟩
instance : Deep Rt := Deep.flat rcells 19
instance : FlatT Rt rcells 19 := ⟨rfl, fun _ => rfl⟩
instance (r : Rt) : SizeIs (rcells r) 19 := ⟨rcells_size r, Enc.one r⟩
instance (r : Rt) : PartAt (rcells r) 0 18 (pcells r.p) := ⟨pcells_size _, fun j hj => by rw [Nat.zero_add]; exact rcells_p r j hj⟩
instance (r : Rt) : CellAt (rcells r) 18 (.int .u16 r.hop.toNat) := ⟨rcells_hop r⟩
instance (r : Rt) : CellAt (rcells r) 0 (.int .i64 r.p.bits) := ⟨(rcells_p r 0 (by decide)).trans (pcells_0 r.p)⟩
instance (r : Rt) : CellAt (rcells r) 1 (.int .i64 r.p.len) := ⟨(rcells_p r 1 (by decide)).trans (pcells_1 r.p)⟩
instance (r : Rt) : PartAt (rcells r) 2 16 (kcells r.p.key) := ⟨kcells_size _, fun j hj => (rcells_p r (2 + j) (by omega)).trans (pcells_k r.p j)⟩
theorem part22 (d : Nat) : PartT Tryd.prog (d + 1) 26 false [0] := ⟨⟨_, Tryd.underlying26, rfl⟩, by kernel_rfl, fun _ => rfl, eqF_int Tryd.underlying26⟩
theorem stoodR : Tryd.prog.stoodInHeld 28 = false := by kernel_rfl
theorem partR (d : Nat) : PartT Tryd.prog (d + 1 + 1 + 1 + 1) 28 true (([0] ++ ([0] ++ ((List.replicate 16 [0]).flatten ++ []))) ++ ([0] ++ [])) := ⟨⟨_, Tryd.underlying28, rfl⟩, by kernel_rfl, (fun h => by cases h),
  eqF_struct Tryd.underlying28 stoodR ⟨by decide, rfl, _, _, _, rfl, partX _, by decide, rfl, _, _, _, rfl, part22 _, rfl⟩⟩
theorem guardR : Tryd.prog.eqGuardType Tryd.prog.depth 28 = false := by kernel_rfl
instance (a b : Rt) : EqV Tryd.prog 28 (.agg (rcells a)) (.agg (rcells b)) (decide (a = b)) :=
  (partR 9996).eq.val rfl guardR (rcells_size a) (rcells_size b) (fun i k hk => by
    have h0 : k = 0 := by
      have : k ∈ (([0] ++ ([0] ++ ((List.replicate 16 [0]).flatten ++ []))) ++ ([0] ++ [])) := List.mem_of_getElem? hk
      simpa using this
    subst h0
    have hi : i < 19 := (List.getElem?_eq_some_iff.1 hk).1
    match i, hi with
    | 0, _ => exact ⟨_, _, (inferInstance : CellAt (rcells a) 0 _).h, (inferInstance : CellAt (rcells b) 0 _).h, rfl⟩
    | 1, _ => exact ⟨_, _, (inferInstance : CellAt (rcells a) 1 _).h, (inferInstance : CellAt (rcells b) 1 _).h, rfl⟩
    | j + 2, hi =>
      rcases Nat.lt_or_ge j 16 with h | h
      · rw [Nat.add_comm j 2]
        exact ⟨_, _, (rcells_p a _ (by omega)).trans ((pcells_k a.p j).trans (kcells_get _ j h)), (rcells_p b _ (by omega)).trans ((pcells_k b.p j).trans (kcells_get _ j h)), rfl⟩
      · obtain rfl : j = 16 := by omega
        exact ⟨_, _, rcells_hop a, rcells_hop b, rfl⟩) (by rw [decide_eq_true_iff]; exact ⟨rcells_inj, fun h => by rw [h]⟩)
instance : BuildT Tryd.prog 28 [] (.agg (rcells zroute)) := ⟨fun w => by unfold rcells pcells zroute; rw [kcells_zero]; kernel_rfl⟩
instance : BuildT Tryd.prog 25 [] (.agg (pcells ⟨0, 0, 0#128⟩)) := ⟨fun w => by unfold pcells; rw [kcells_zero]; kernel_rfl⟩
instance (n m : Int) : BuildT Tryd.prog 25 [(0, .int .i64 n), (1, .int .i64 m)] (.agg (pcells ⟨n, m, 0#128⟩)) := ⟨fun w => by unfold pcells; rw [kcells_zero]; kernel_rfl⟩
instance (p : Pfx) (h : UInt16) : BuildT Tryd.prog 28 [(0, .agg (pcells p)), (1, .int .u16 h.toNat)] (.agg (rcells ⟨p, h⟩)) := ⟨fun w => by kernel_rfl⟩
instance : ZeroT Tryd.prog 28 (.agg (rcells zroute)) := ⟨by unfold rcells pcells zroute; rw [kcells_zero]; kernel_rfl⟩

end Go.Proofs.YtldkgicmfbofiaaDoor
