/- The law RouteBack holds, and its card. -/
import Derived.Test.YtldkgicmfbofiaaDoorOpL
import Derived.Test.YtldkgicmfbofiaaDoorTie
import Derived.Test.YtldkgicmfbofiaaDoorCards
set_option linter.unusedSimpArgs false
set_option linter.unusedVariables false
namespace Go.Proofs.YtldkgicmfbofiaaDoor
open Go.Eng Go.Kb Go.ChangeShapes Go.WideShapes Go.ChangeAt Go.RowKit
set_option maxRecDepth 100000 in
theorem routeBack_call {H : Type} {enc : TypeId × Value → H} (W : World) (base : Nat) (vs : List Value) (hs : W.ShapedOpen Tryd.prog) (hL : laidMetH Tryd.prog laidL W) (hl : vs.length = 3) (h : ∀ (j : Nat) t v, Tryd.f4.params[j]? = some t → vs[j]? = some v → Arg H enc Tryd.prog W base t v) :
    Calls Tryd.prog 4 vs.toArray W fun e W' => e = .returned (.bool true) ∧ Mem W [] W' := by
  rw [Tryd.params4] at h
  obtain ⟨v0, v1, v2, rfl⟩ := list3 hl
  obtain ⟨x0, rfl, -⟩ := (h 0 28 v0 rfl rfl).agg (inferInstance : RowT Tryd.prog 28 _) Rt
  obtain ⟨x1, rfl, -⟩ := (h 1 28 v1 rfl rfl).agg (inferInstance : RowT Tryd.prog 28 _) Rt
  obtain ⟨x2, rfl, b2⟩ := (h 2 9 v2 rfl rfl).str Tryd.underlying9
  exact routeBack_c W (tb := tabs_of hs hL) x0 x1 x2
set_option maxRecDepth 100000 in
theorem routeBack_lifted (os : Os) (started : os.Started) (H : Type) (enc : TypeId × Value → H) :
    ReturnsInHanded {} Tryd.checked os 4 .any (fun w args => (Rows.routeBackSpec.pre enc Tryd.prog Tryd.f4 Rows.routeBackRow.domain false w args ∧ laidMetH Tryd.prog laidL w) ∧ sizedMet enc Tryd.prog Tryd.f4 (OpenSpec.ofChange Rows.routeBackSpec) false w args) (Rows.routeBackSpec.post enc Tryd.prog Tryd.f4 false true false false) :=
  lifted_laid (C := Tryd.checked) (laid := laidL) Tryd.own started (by kernel_rfl) Tryd.func4
    (ChangeSpec.witness_shaped (enc := enc) (C := Tryd.checked) (os := os) (X := fun w _ => laidMetH Tryd.prog laidL w) false (World.laidAll Tryd.prog os laidL) #[.agg #[.int .i64 0, .int .i64 0, .int .u8 0, .int .u8 0, .int .u8 0, .int .u8 0, .int .u8 0, .int .u8 0, .int .u8 0, .int .u8 0, .int .u8 0, .int .u8 0, .int .u8 0, .int .u8 0, .int .u8 0, .int .u8 0, .int .u8 0, .int .u8 0, .int .u16 0], .agg #[.int .i64 0, .int .i64 0, .int .u8 0, .int .u8 0, .int .u8 0, .int .u8 0, .int .u8 0, .int .u8 0, .int .u8 0, .int .u8 0, .int .u8 0, .int .u8 0, .int .u8 0, .int .u8 0, .int .u8 0, .int .u8 0, .int .u8 0, .int .u8 0, .int .u16 0], .string ⟨#[]⟩] 24 (World.laidAll_os _ _ _)
      (World.shaped_of_ZipB (by kernel_rfl) (by kernel_rfl)) (by kernel_rfl) (by kernel_rfl) (by kernel_rfl)
      (by rw [MakeChecks.laidMetH_plain _ _ _ (by kernel_rfl)]; exact laidMet_laidAll _ (by kernel_rfl) (by kernel_rfl)))
    Tryd.laidOut (by kernel_rfl) rfl Tryd.underlying4 rfl (fun ds hd => by obtain ⟨d0, d1, d2, rfl⟩ := list3 (hd.trans (by kernel_rfl)); rfl)
    (fun W base vs hs hL hl h => routeBack_call W base vs hs hL (hl.trans (by kernel_rfl)) h)
theorem routeBack_row : Rows.RouteBackSaid :=
  OpenClaim.holds_of_wide 4 Tryd.f4 rfl rfl rfl rfl rfl rfl rfl ⟨rfl, rfl, rfl, rfl, rfl⟩ rfl rfl rfl rfl rfl (by kernel_rfl) Tryd.func4 (by kernel_rfl)
    (of_decide_eq_true (by kernel_rfl)) (by unfold Func.isWrapper; first | (rw [if_pos (by decide +kernel)]; kernel_rfl) | (rw [if_neg (by decide +kernel)]; exact ⟨rfl, rfl⟩))
    (fun os started H enc _ => routeBack_lifted os started H enc)
theorem routeBack_holds : Rows.RouteBackCardSaid :=
  Claim7.holds_tied_plain_at .later [] [.data, .data, .data, .data, .pinned] true (true, "a83c33a64d49ea4dc2f67d4176edcc26b63f1b2777d047e08585eba6c38ec7f3") false
    routeBack_row (fun _ h => by cases h) (by kernel_rfl) (fun _ h => by cases h) routeBack_row_tie rfl ⟨rfl, rfl⟩ (by kernel_rfl) rfl
    (fun f fn hf hfn => by
      obtain rfl : f = 4 := Option.some.inj ((show Tryd.prog.funcNamed "byway/bywaylaw02.RouteBack" = some 4 by kernel_rfl).symm.trans hf) |>.symm
      obtain rfl : fn = Tryd.f4 := (Option.some.inj (Tryd.func4.symm.trans hfn)).symm
      exact ⟨by kernel_rfl, fun j t ht => by
        rw [Tryd.params4] at ht
        have hm : t ∈ [28, 28, 9] := by
          obtain ⟨hj, e⟩ := Array.getElem?_eq_some_iff.1 ht
          rw [← e]; exact Array.mem_toList_iff.2 (Array.getElem_mem hj)
        simp only [List.mem_cons, List.not_mem_nil, or_false] at hm
        rcases hm with rfl | rfl | rfl
        · exact (show Tryd.prog.wantsStandIn 28 = false by kernel_rfl)
        · exact (show Tryd.prog.wantsStandIn 28 = false by kernel_rfl)
        · exact (show Tryd.prog.wantsStandIn 9 = false by kernel_rfl)⟩)
    (by kernel_rfl)

end Go.Proofs.YtldkgicmfbofiaaDoor
