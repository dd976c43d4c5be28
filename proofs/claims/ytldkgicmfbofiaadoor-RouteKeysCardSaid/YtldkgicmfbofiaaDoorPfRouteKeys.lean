/- The law RouteKeys holds, and its card. -/
import Derived.Test.YtldkgicmfbofiaaDoorOpL
import Derived.Test.YtldkgicmfbofiaaDoorTie
import Derived.Test.YtldkgicmfbofiaaDoorCards
set_option linter.unusedSimpArgs false
set_option linter.unusedVariables false
namespace Go.Proofs.YtldkgicmfbofiaaDoor
open Go.Eng Go.Kb Go.ChangeShapes Go.WideShapes Go.ChangeAt Go.RowKit
set_option maxRecDepth 100000 in
theorem routeKeys_call {H : Type} {enc : TypeId × Value → H} (W : World) (base : Nat) (vs : List Value) (hs : W.ShapedOpen Tryd.prog) (hL : laidMetH Tryd.prog laidL W) (hl : vs.length = 2) (h : ∀ (j : Nat) t v, Tryd.f5.params[j]? = some t → vs[j]? = some v → Arg H enc Tryd.prog W base t v) :
    Calls Tryd.prog 5 vs.toArray W fun e W' => e = .returned (.bool true) ∧ Mem W [] W' := by
  rw [Tryd.params5] at h
  obtain ⟨v0, v1, rfl⟩ := list2 hl
  obtain ⟨x0, rfl, -⟩ := (h 0 23 v0 rfl rfl).agg (inferInstance : RowT Tryd.prog 23 _) Key
  obtain ⟨x1, rfl, b1⟩ := int_of_okWide (t := 3) Tryd.underlying3 (h 1 3 v1 rfl rfl).ok
  exact routeKeys_c W (tb := tabs_of hs hL) x0 x1
set_option maxRecDepth 100000 in
theorem routeKeys_lifted (os : Os) (started : os.Started) (H : Type) (enc : TypeId × Value → H) :
    ReturnsInHanded {} Tryd.checked os 5 .any (fun w args => (Rows.routeKeysSpec.pre enc Tryd.prog Tryd.f5 Rows.routeKeysRow.domain false w args ∧ laidMetH Tryd.prog laidL w) ∧ sizedMet enc Tryd.prog Tryd.f5 (OpenSpec.ofChange Rows.routeKeysSpec) false w args) (Rows.routeKeysSpec.post enc Tryd.prog Tryd.f5 false true false false) :=
  lifted_laid (C := Tryd.checked) (laid := laidL) Tryd.own started (by kernel_rfl) Tryd.func5
    (ChangeSpec.witness_shaped (enc := enc) (C := Tryd.checked) (os := os) (X := fun w _ => laidMetH Tryd.prog laidL w) false (World.laidAll Tryd.prog os laidL) #[.agg #[.int .u8 0, .int .u8 0, .int .u8 0, .int .u8 0, .int .u8 0, .int .u8 0, .int .u8 0, .int .u8 0, .int .u8 0, .int .u8 0, .int .u8 0, .int .u8 0, .int .u8 0, .int .u8 0, .int .u8 0, .int .u8 0], .int .i64 0] 24 (World.laidAll_os _ _ _)
      (World.shaped_of_ZipB (by kernel_rfl) (by kernel_rfl)) (by kernel_rfl) (by kernel_rfl) (by kernel_rfl)
      (by rw [MakeChecks.laidMetH_plain _ _ _ (by kernel_rfl)]; exact laidMet_laidAll _ (by kernel_rfl) (by kernel_rfl)))
    Tryd.laidOut (by kernel_rfl) rfl Tryd.underlying4 rfl (fun ds hd => by obtain ⟨d0, d1, rfl⟩ := list2 (hd.trans (by kernel_rfl)); rfl)
    (fun W base vs hs hL hl h => routeKeys_call W base vs hs hL (hl.trans (by kernel_rfl)) h)
theorem routeKeys_row : Rows.RouteKeysSaid :=
  OpenClaim.holds_of_wide 5 Tryd.f5 rfl rfl rfl rfl rfl rfl rfl ⟨rfl, rfl, rfl, rfl, rfl⟩ rfl rfl rfl rfl rfl (by kernel_rfl) Tryd.func5 (by kernel_rfl)
    (of_decide_eq_true (by kernel_rfl)) (by unfold Func.isWrapper; first | (rw [if_pos (by decide +kernel)]; kernel_rfl) | (rw [if_neg (by decide +kernel)]; exact ⟨rfl, rfl⟩))
    (fun os started H enc _ => routeKeys_lifted os started H enc)
theorem routeKeys_holds : Rows.RouteKeysCardSaid :=
  Claim7.holds_tied_plain_at .later [] [.data, .data, .data, .data, .pinned] true (true, "a83c33a64d49ea4dc2f67d4176edcc26b63f1b2777d047e08585eba6c38ec7f3") false
    routeKeys_row (fun _ h => by cases h) (by kernel_rfl) (fun _ h => by cases h) routeKeys_row_tie rfl ⟨rfl, rfl⟩ (by kernel_rfl) rfl
    (fun f fn hf hfn => by
      obtain rfl : f = 5 := Option.some.inj ((show Tryd.prog.funcNamed "byway/bywaylaw02.RouteKeys" = some 5 by kernel_rfl).symm.trans hf) |>.symm
      obtain rfl : fn = Tryd.f5 := (Option.some.inj (Tryd.func5.symm.trans hfn)).symm
      exact ⟨by kernel_rfl, fun j t ht => by
        rw [Tryd.params5] at ht
        have hm : t ∈ [23, 3] := by
          obtain ⟨hj, e⟩ := Array.getElem?_eq_some_iff.1 ht
          rw [← e]; exact Array.mem_toList_iff.2 (Array.getElem_mem hj)
        simp only [List.mem_cons, List.not_mem_nil, or_false] at hm
        rcases hm with rfl | rfl
        · exact (show Tryd.prog.wantsStandIn 23 = false by kernel_rfl)
        · exact (show Tryd.prog.wantsStandIn 3 = false by kernel_rfl)⟩)
    (by kernel_rfl)

end Go.Proofs.YtldkgicmfbofiaaDoor
