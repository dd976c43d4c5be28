/- A text cut at a sign: walked. -/
import Derived.Test.YtldkgicmfbofiaaDoorRA
import Derived.Test.YtldkgicmfbofiaaDoorTs
set_option linter.unusedSimpArgs false
set_option linter.unusedVariables false
namespace Go.Proofs.YtldkgicmfbofiaaDoor
open Go.Eng Go.Kb
set_option maxRecDepth 20000 in
theorem rsplit_c (w : World) (s : List UInt8) (c : UInt8)  (hpre : s.length ≤ 1000000000) : Calls Tryd.prog 28 #[.string ⟨s.toArray⟩, .int .u8 (c.toNat : Nat)] w fun e w' => ∃ zz : Sv, e = .returned (zz.val) ∧ (True) ∧ Mem w [own txc 1 zz (splitL c s)] w' := by
  refine calls_of (args := [_, _]) Tryd.func28 rfl Tryd.ntmps28 rfl ?_
  change Cw _ _ _ _ _ [(0, .string ⟨s.toArray⟩), (1, .int .u8 (c.toNat : Nat))] []
  refine cw_seq ?_
  refine cw_region ?_
  refine sq_r (ry_assign rfl) ?_
  refine sq_nil ?_
  refine ex_then ?_
  refine cw_seq ?_
  refine cw_region ?_
  refine sq_r (ry_assign rfl) ?_
  refine sq_nil ?_
  refine ex_then ?_
  refine cw_seq ?_
  refine cw_region ?_
  refine sq_r (ry_assign rfl) ?_
  refine sq_nil ?_
  refine ex_then ?_
  refine cw_seq ?_
  refine cw_seq ?_
  
  refine cw_region ?_
  refine sq_r (ry_assign rfl) ?_
  refine sq_nil ?_
  refine ex_then ?_
  refine cw_block ?_
  refine cw_loop (X := Nat × Nat × Sv × List Txt) (fun zz => [(7, .int .i64 (zz.1 : Nat)), (6, .int .i64 (zz.2.1 : Nat)), (5, zz.2.2.1.val), (0, .string ⟨s.toArray⟩), (1, .int .u8 (c.toNat : Nat))]) (fun zz => [own txc 1 zz.2.2.1 zz.2.2.2]) (fun zz => Cutting c s zz.1 zz.2.1 zz.2.2.2 ∧ zz.1 ≤ s.length + 1 ∧ zz.2.2.2.length ≤ zz.1) (fun zz => s.length + 1 - zz.1) (0, 0, Sv.none, []) ⟨cutting_0 c s, Nat.zero_le _, Nat.le_refl _⟩ (Sub.cons rfl (Sub.cons rfl (Sub.cons rfl (Sub.cons rfl (Sub.cons rfl (Sub.nil _)))))) (fun w hw => Mem.nilOwn txc 1 (Keep.mem hw)) ?_
  rintro ⟨i, b, o, q⟩ ⟨hc, hi, hl⟩
  dsimp only
  simp only at hc hi hl
  refine cw_seq ?_
  refine cw_seq ?_
  refine cw_region ?_
  refine sq_r (ry_move rfl) ?_
  refine sq_r (ry_move rfl) ?_
  refine sq_r (ry_lenT (s := s) Tryd.underlying9 rfl) ?_
  refine sq_r (ry_int rfl rfl rfl) ?_
  refine sq_nil ?_
  refine ex_then ?_
  refine cw_cond rfl (fun h0 => ?_) (fun h0 => ?_)
  · try simp only [Bool.and_eq_true, Bool.or_eq_true, Bool.and_eq_false_iff, Bool.or_eq_false_iff, Bool.not_eq_true', Bool.not_eq_false', decide_eq_true_eq, decide_eq_false_iff_not, Bool.not_eq_true, Bool.not_eq_false] at h0
    refine cw_skip ?_
    refine ex_then ?_
    refine cw_seq ?_
    refine cw_block ?_
    refine cw_seq ?_
    refine cw_region ?_
    refine sq_r (ry_move rfl) ?_
    refine sq_r (ry_move rfl) ?_
    refine sq_r (ry_lenT (s := s) Tryd.underlying9 rfl) ?_
    refine sq_r (ry_int rfl rfl rfl) ?_
    refine sq_r (ry_move rfl) ?_
    refine sq_gf rfl rfl rfl (fun hg => (Ry.yl (ry_move rfl))) ?_
    refine sq_gf rfl rfl rfl (fun hg => (Ry.yl (ry_move rfl))) ?_
    refine sq_gf rfl rfl rfl (fun hg => (Ry.yl (ry_idxT (s := s) i Tryd.underlying9 (ev_c hg rfl) (ev_c hg rfl) rfl (by simp only [Bool.and_eq_true, Bool.or_eq_true, Bool.and_eq_false_iff, Bool.or_eq_false_iff, Bool.not_eq_true', Bool.not_eq_false', decide_eq_true_eq, decide_eq_false_iff_not, Bool.not_eq_true, Bool.not_eq_false] at hg; omega)))) ?_
    refine sq_gf rfl rfl rfl (fun hg => (Ry.yl (ry_move rfl))) ?_
    refine sq_gf rfl rfl rfl (fun hg => (Ry.yl (ry_int (ev_c hg rfl) (ev_c hg rfl) rfl))) ?_
    refine sq_r (ry_or rfl rfl rfl) ?_
    refine sq_nil ?_
    refine ex_then ?_
    refine cw_cond rfl (fun h1 => ?_) (fun h1 => ?_)
    · try simp only [Bool.and_eq_true, Bool.or_eq_true, Bool.and_eq_false_iff, Bool.or_eq_false_iff, Bool.not_eq_true', Bool.not_eq_false', decide_eq_true_eq, decide_eq_false_iff_not, Bool.not_eq_true, Bool.not_eq_false] at h1
      refine cw_seq ?_
      refine cw_region ?_
      refine sq_r (ry_move rfl) ?_
      refine sq_r (ry_move rfl) ?_
      refine sq_r (ry_move rfl) ?_
      refine sq_r (ry_move rfl) ?_
      refine sq_r (ry_strsub b i Tryd.underlying9 rfl rfl rfl rfl rfl (hc.le (by omega)).1 (hc.le (by omega)).2) ?_
      refine sq_buildSlice (enc := txc) (vals := [_]) [((s.drop b).take (i - b))] rfl rfl rfl (by decide) (by decide) fun b30 => ?_
      refine sq_append (s := o) (ys := [((s.drop b).take (i - b))]) rfl rfl (by decide) (fun w hw => src_rows (s := ⟨false, b30, 0, 1, 1, none⟩) Tryd.underlying57 (by decide) ((inferInstance : Hd _ _ ⟨false, b30, 0, 1, 1, none⟩ txc 1 [((s.drop b).take (i - b))]).h w hw)) (by simp only [List.length_append, List.length_cons, List.length_nil]; omega) (by simp only [List.length_append, List.length_cons, List.length_nil]; omega) fun s31 hs31 hl31 => ?_
      refine sq_r (ry_assign rfl) ?_
      refine sq_nil ?_
      refine ex_then ?_
      refine cw_region ?_
      refine sq_r (ry_move rfl) ?_
      refine sq_r (ry_add rfl rfl (by omega)) ?_
      refine sq_r (ry_assign rfl) ?_
      refine sq_nil ?_
      refine ex_block ?_
      refine ex_then ?_
      refine cw_region ?_
      refine sq_r (ry_move rfl) ?_
      refine sq_r (ry_add rfl rfl (by omega)) ?_
      refine sq_r (ry_assign rfl) ?_
      refine sq_nil ?_
      exact ex_again (x := (i, b, o, q)) (i + 1, i + 1, s31, q ++ [(s.drop b).take (i - b)]) ⟨hc.hit (by first | omega | (simp only []; omega)) (by first | omega | (simp only []; omega)), by first | omega | (simp only []; omega), by simp only [List.length_append, List.length_cons, List.length_nil]; omega⟩ (by simp only; omega) (Sub.cons rfl (Sub.cons rfl (Sub.cons rfl (Sub.cons rfl (Sub.cons rfl (Sub.nil _)))))) (fun w hw => Keep.mem hw)
    · try simp only [Bool.and_eq_true, Bool.or_eq_true, Bool.and_eq_false_iff, Bool.or_eq_false_iff, Bool.not_eq_true', Bool.not_eq_false', decide_eq_true_eq, decide_eq_false_iff_not, Bool.not_eq_true, Bool.not_eq_false] at h1
      refine cw_skip ?_
      refine ex_block ?_
      refine ex_then ?_
      refine cw_region ?_
      refine sq_r (ry_move rfl) ?_
      refine sq_r (ry_add rfl rfl (by omega)) ?_
      refine sq_r (ry_assign rfl) ?_
      refine sq_nil ?_
      exact ex_again (x := (i, b, o, q)) (i + 1, b, o, q) ⟨hc.miss (by first | omega | (simp only []; omega)) (by first | omega | (simp only []; omega)), by first | omega | (simp only []; omega), by simp only; omega⟩ (by simp only; omega) (Sub.cons rfl (Sub.cons rfl (Sub.cons rfl (Sub.cons rfl (Sub.cons rfl (Sub.nil _)))))) (fun w hw => Keep.mem hw)
  · try simp only [Bool.and_eq_true, Bool.or_eq_true, Bool.and_eq_false_iff, Bool.or_eq_false_iff, Bool.not_eq_true', Bool.not_eq_false', decide_eq_true_eq, decide_eq_false_iff_not, Bool.not_eq_true, Bool.not_eq_false] at h0
    refine cw_exit ?_
    refine ex_pass_exit ?_
    refine ex_pass_exit ?_
    refine ex_block_hit ?_
    refine ex_then ?_
    refine cw_seq ?_
    refine cw_region ?_
    refine sq_r (ry_move rfl) ?_
    refine sq_r (ry_assign rfl) ?_
    refine sq_nil ?_
    refine ex_then ?_
    refine cw_ret ?_
    refine ex_ret (.inl rfl) (res_1 rfl (rv_tmp rfl)) (fun w1 hw => ?_)
    exact ⟨o, rfl, trivial, by rw [← hc.done (by omega)]; exact Keep.mem hw⟩
instance rsplit_i {w0 : World} {L : List Ent} {s : List UInt8} {c : UInt8}  : FnC Tryd.prog 28 w0 L [.string ⟨s.toArray⟩, .int .u8 (c.toNat : Nat)] (Sv) (fun zz => zz.val) (fun zz => own txc 1 zz (splitL c s) :: L) (fun zz => True) (s.length ≤ 1000000000) := ⟨fun hp w hw => (rsplit_c w s c  hp).mono fun e w' ⟨x, h1, h2, h3⟩ => ⟨x, h1, h2, hw.call h3⟩⟩

end Go.Proofs.YtldkgicmfbofiaaDoor
