/- A place in a table: walked. -/
import Derived.Test.YtembaconocgmlaaT3g
import Derived.Test.YtembaconocgmlaaTb
set_option linter.unusedSimpArgs false
set_option linter.unusedVariables false
namespace Go.Proofs.Ytembaconocgmlaa
open Go.Eng Go.Kb
instance : Enc pcells 18 := ⟨pcells_size, fun p => (inferInstance : SizeIs (pcells p) 18).one⟩
set_option maxRecDepth 20000 in
theorem tplace1_c (w : World) (b2 b3 : Nat) (s : Sv) (ss : List Rt) (q : Pfx) (j : Nat) (h2 : Lies senc 1 (hp w) ⟨false, b2, 0, 1, 1, none⟩ [s]) (h3 : Lies pcells 18 (hp w) ⟨false, b3, 0, 1, 1, none⟩ [q]) (hs : Lies rcells 19 (hp w) s ss) (hj : j < ss.length) : Calls Try.prog 92 #[.int .i64 (j : Nat), .pointer (some ⟨b2, 0, none⟩), .pointer (some ⟨b3, 0, none⟩)] w fun e w' => e = .returned (.bool (behind ss q j)) ∧ Mem w [] w' := by
  have g2 : Gv w ⟨false, b2, 0, 1, 1, none⟩ senc 1 [s] := ⟨h2⟩
  have g3 : Gv w ⟨false, b3, 0, 1, 1, none⟩ pcells 18 [q] := ⟨h3⟩
  have gs : Gv w s rcells 19 ss := ⟨hs⟩
  refine calls_of (args := [_, _, _]) Try.func92 rfl Try.ntmps92 rfl ?_
  change Cw _ _ _ _ _ [(0, .int .i64 (j : Nat)), (1, .pointer (some ⟨b2, 0, none⟩)), (2, .pointer (some ⟨b3, 0, none⟩))] []
  refine cw_seq ?_
  refine cw_region ?_
  refine sq_r (ry_assign rfl) ?_
  refine sq_nil ?_
  refine ex_then ?_
  refine cw_seq ?_
  refine cw_quiet (by kernel_rfl) (by kernel_rfl) ?_
  refine qt_r (ry_elemcH (s := ⟨false, b2, 0, 1, 1, none⟩) (enc := senc) (c := 1) (xs := [s]) (a := s) (j := 0) (v := s.val) rfl 0 rfl rfl (by decide)) ?_
  refine qt_r (ry_move rfl) ?_
  obtain ⟨r, hr⟩ := get_some (xs := ss) (i := j) (by omega)
  refine qt_r (ry_idxH rfl rfl j rfl (by omega)) ?_
  refine qt_r (ry_field rfl rfl) ?_
  refine qt_r (ry_elempH (j := 0) rfl j hr rfl (by decide)) ?_
  refine qt_r (ry_elemH (s := ⟨false, b3, 0, 1, 1, none⟩) (enc := pcells) (c := 18) (xs := [q]) (a := q) rfl 0 rfl rfl) ?_
  refine qt_y (yl_callC rfl trivial) ?_
  refine qt_r (ry_not rfl) ?_
  refine qt_r (ry_assign rfl) ?_
  refine qt_nil ?_
  refine ex_then ?_
  refine cw_ret ?_
  refine ex_ret (.inl rfl) (res_1 rfl (rv_tmp rfl)) (fun w1 hw => ?_)
  exact ⟨congrArg (fun b => Ending.returned (Value.bool b)) ((by simp only [behind, hr])), Keep.mem hw⟩

set_option maxRecDepth 20000 in
theorem tsearch_c (w : World) (n : Nat) (p : Nat → Bool) (f : FuncId) [hf : IsFn Try.prog f] (caps : Array Value) (hF : ∀ w', Mem w [] w' → ∀ j : Nat, j < n → Calls Try.prog f ([Value.int .i64 (j : Nat)] ++ caps.toList).toArray w' fun e w'' => e = .returned (.bool (p j)) ∧ Mem w' [] w'') (hn : n ≤ 1000000000) : Calls Try.prog 91 #[.int .i64 (n : Nat), .func (.func f) #[] caps] w fun e w' => e = .returned (.int .i64 (bs p n : Nat)) ∧ Mem w [] w' := by
  refine calls_of (args := [_, _]) Try.func91 rfl Try.ntmps91 rfl ?_
  change Cw _ _ _ _ _ [(0, .int .i64 (n : Nat)), (1, .func (.func f) #[] caps)] []
  refine cw_seq ?_
  refine cw_region ?_
  refine sq_r (ry_assign rfl) ?_
  refine sq_nil ?_
  refine ex_then ?_
  refine cw_seq ?_
  refine cw_region ?_
  refine sq_r (ry_move rfl) ?_
  refine sq_r (ry_assign rfl) ?_
  refine sq_r (ry_assign rfl) ?_
  refine sq_nil ?_
  refine ex_then ?_
  refine cw_seq ?_
  refine cw_block ?_
  refine cw_loop (X := Nat × Nat) (fun zz => [(5, .int .i64 (zz.1 : Nat)), (6, .int .i64 (zz.2 : Nat)), (1, .func (.func f) #[] caps)]) (fun zz => []) (fun zz => zz.1 ≤ zz.2 ∧ zz.2 ≤ n ∧ bsl p (n + 1) zz.1 zz.2 = bs p n) (fun zz => zz.2 - zz.1) (0, n) ⟨Nat.zero_le _, Nat.le_refl _, rfl⟩ (Sub.cons rfl (Sub.cons rfl (Sub.cons rfl (Sub.nil _)))) (fun w hw => Keep.mem hw) ?_
  rintro ⟨i, j⟩ ⟨hi1, hi2, hi3⟩
  dsimp only
  simp only at hi1 hi2 hi3
  refine cw_seq ?_
  refine cw_seq ?_
  refine cw_region ?_
  refine sq_r (ry_move rfl) ?_
  refine sq_r (ry_move rfl) ?_
  refine sq_r (ry_int rfl rfl rfl) ?_
  refine sq_nil ?_
  refine ex_then ?_
  refine cw_cond rfl (fun h0 => ?_) (fun h0 => ?_)
  · try simp only [Bool.and_eq_true, Bool.or_eq_true, Bool.and_eq_false_iff, Bool.or_eq_false_iff, Bool.not_eq_true', Bool.not_eq_false', decide_eq_true_eq, decide_eq_false_iff_not, Bool.not_eq_true, Bool.not_eq_false] at h0
    refine cw_skip ?_
    refine ex_then ?_
    refine cw_block ?_
    refine cw_seq ?_
    refine cw_region ?_
    refine sq_r (ry_move rfl) ?_
    refine sq_r (ry_move rfl) ?_
    refine sq_r (ry_add rfl rfl (by omega)) ?_
    refine sq_r (ry_convn (n := i + j) rfl (by simp only [nb]; omega)) ?_
    refine sq_r (ry_shr (p := i + j) rfl rfl (by simp only [nb]; omega) (by omega)) ?_
    refine sq_r (ry_convn (n := (i + j) / 2 ^ 1) rfl (by simp only [nb]; omega)) ?_
    refine sq_r (ry_assign rfl) ?_
    refine sq_nil ?_
    refine ex_then ?_
    refine cw_seq ?_
    refine cw_region ?_
    refine sq_r (ry_move rfl) ?_
    refine sq_r (ry_move rfl) ?_
    refine sq_y (yl_fcall rfl rfl (fun w1 hw1 => hF w1 hw1 ((i + j) / 2) (by omega))) ?_
    refine sq_r (ry_not rfl) ?_
    refine sq_nil ?_
    refine ex_then ?_
    refine cw_cond rfl (fun h1 => ?_) (fun h1 => ?_)
    · try simp only [Bool.and_eq_true, Bool.or_eq_true, Bool.and_eq_false_iff, Bool.or_eq_false_iff, Bool.not_eq_true', Bool.not_eq_false', decide_eq_true_eq, decide_eq_false_iff_not, Bool.not_eq_true, Bool.not_eq_false] at h1
      refine cw_region ?_
      refine sq_r (ry_move rfl) ?_
      refine sq_r (ry_add rfl rfl (by omega)) ?_
      refine sq_r (ry_assign rfl) ?_
      refine sq_nil ?_
      refine ex_block ?_
      exact ex_again (x := (i, j)) ((i + j) / 2 + 1, j) ⟨by first | omega | (simp only []; omega), hi2, by rw [← hi3, bsl_step (show i < j by first | omega | (simp only []; omega)) (by first | omega | (simp only []; omega)), if_neg (by rw [h1]; simp)]⟩ (by simp only; omega) (Sub.cons rfl (Sub.cons rfl (Sub.cons rfl (Sub.nil _)))) (fun w hw => Keep.mem hw)
    · try simp only [Bool.and_eq_true, Bool.or_eq_true, Bool.and_eq_false_iff, Bool.or_eq_false_iff, Bool.not_eq_true', Bool.not_eq_false', decide_eq_true_eq, decide_eq_false_iff_not, Bool.not_eq_true, Bool.not_eq_false] at h1
      refine cw_region ?_
      refine sq_r (ry_move rfl) ?_
      refine sq_r (ry_assign rfl) ?_
      refine sq_nil ?_
      refine ex_block ?_
      exact ex_again (x := (i, j)) (i, (i + j) / 2) ⟨by first | omega | (simp only []; omega), by first | omega | (simp only []; omega), by rw [← hi3, bsl_step (show i < j by first | omega | (simp only []; omega)) (by first | omega | (simp only []; omega)), if_pos h1]⟩ (by simp only; omega) (Sub.cons rfl (Sub.cons rfl (Sub.cons rfl (Sub.nil _)))) (fun w hw => Keep.mem hw)
  · try simp only [Bool.and_eq_true, Bool.or_eq_true, Bool.and_eq_false_iff, Bool.or_eq_false_iff, Bool.not_eq_true', Bool.not_eq_false', decide_eq_true_eq, decide_eq_false_iff_not, Bool.not_eq_true, Bool.not_eq_false] at h0
    refine cw_exit ?_
    refine ex_pass_exit ?_
    refine ex_pass_exit ?_
    refine ex_block_hit ?_
    refine ex_then ?_
    refine cw_seq ?_
    refine cw_region ?_
    refine sq_r (ry_move rfl) ?_
    refine sq_r (ry_assign rfl) ?_
    refine sq_nil ?_
    refine ex_then ?_
    refine cw_ret ?_
    refine ex_ret (.inl rfl) (res_1 rfl (rv_tmp rfl)) (fun w1 hw => ?_)
    exact ⟨congrArg (fun b => Ending.returned (Value.int .i64 b)) ((by rw [← hi3, bsl_stop (by omega) (by omega)])), Keep.mem hw⟩

set_option maxRecDepth 20000 in
theorem tplace_c (w : World) (t : Sv) (ts : List Rt) (p : Pfx) (ht : Lies rcells 19 (hp w) t ts) (hpre : ts.length ≤ 1000000) : Calls Try.prog 86 #[t.val, .agg (pcells p)] w fun e w' => e = .returned (.tuple #[.int .i64 ((placeN ts p : Nat) : Int), .bool (placeB ts p)]) ∧ Mem w [] w' := by
  have ght : Gv w t rcells 19 ts := ⟨ht⟩
  refine calls_of (args := [_, _]) Try.func86 rfl Try.ntmps86 rfl ?_
  change Cw _ _ _ _ _ [(0, t.val), (1, .agg (pcells p))] []
  refine cw_seq ?_
  refine cw_region ?_
  refine sq_box rfl fun b2 => ?_
  refine sq_boxA rfl fun b3 => ?_
  refine sq_r (ry_assign rfl) ?_
  refine sq_r (ry_assign rfl) ?_
  refine sq_nil ?_
  refine ex_then ?_
  refine cw_seq ?_
  refine cw_region ?_
  refine sq_r (ry_cellc rfl) ?_
  refine sq_r (ry_lenH rfl) ?_
  refine sq_r (ry_mkfunc (vs := [.pointer (some ⟨b2, 0, none⟩), .pointer (some ⟨b3, 0, none⟩)]) rfl) ?_
  refine sq_y (yl_call (v := .int .i64 (placeN ts p : Nat)) rfl (fun w1 hw1 => tsearch_c (f := 92) w1 ts.length (behind ts p) #[.pointer (some ⟨b2, 0, none⟩), .pointer (some ⟨b3, 0, none⟩)] (fun w2 hw2 j hj => tplace1_c w2 b2 b3 t ts p j ((holds_blk (b := b2) (cs := t.val.cells) (enc := senc) (xs := [t]) (n := 1) (by rw [Sv.cells_val]; rfl) rfl (by decide) w1 hw1).mono hw2.below) ((holds_blk (b := b3) (cs := pcells p) (enc := pcells) (c := 18) (xs := [p]) (n := 1) (by simp [flatR]) rfl (by decide) w1 hw1).mono hw2.below) (((inferInstance : Hd w _ t rcells 19 ts).h w1 hw1).mono hw2.below) hj) (by omega))) ?_
  refine sq_r (ry_assign rfl) ?_
  refine sq_nil ?_
  refine ex_then ?_
  refine cw_seq ?_
  refine cw_quiet (by kernel_rfl) (by kernel_rfl) ?_
  refine qt_r (ry_move rfl) ?_
  refine qt_r (ry_move rfl) ?_
  refine qt_r (ry_cellc rfl) ?_
  refine qt_r (ry_lenH rfl) ?_
  refine qt_r (ry_int rfl rfl rfl) ?_
  refine qt_r (ry_move rfl) ?_
  refine qt_gt rfl rfl rfl (fun hg => (Ry.yl (ry_cellc rfl))) ?_
  refine qt_gt rfl rfl rfl (fun hg => (Ry.yl (ry_move rfl))) ?_
  refine qt_gt rfl rfl rfl (fun hg => (Ry.yl (ry_idxH (ev_c hg rfl) (ev_c hg rfl) (placeN ts p) rfl (by simp only [Bool.and_eq_true, Bool.or_eq_true, Bool.and_eq_false_iff, Bool.or_eq_false_iff, Bool.not_eq_true', Bool.not_eq_false', decide_eq_true_eq, decide_eq_false_iff_not, Bool.not_eq_true, Bool.not_eq_false] at hg; omega)))) ?_
  refine qt_gt rfl rfl rfl (fun hg => (Ry.yl (ry_field (ev_c hg rfl) rfl))) ?_
  refine qt_gt rfl rfl rfl (fun hg => (Ry.yl (ry_elempH (j := 0) (ev_c hg rfl) (placeN ts p) (get_getD (xs := ts) (i := (placeN ts p)) (d := zroute) (by simp only [Bool.and_eq_true, Bool.or_eq_true, Bool.and_eq_false_iff, Bool.or_eq_false_iff, Bool.not_eq_true', Bool.not_eq_false', decide_eq_true_eq, decide_eq_false_iff_not, Bool.not_eq_true, Bool.not_eq_false] at hg; omega)) rfl (by decide)))) ?_
  refine qt_gt rfl rfl rfl (fun hg => (Ry.yl (ry_whole rfl))) ?_
  refine qt_gt rfl rfl rfl (fun hg => (Ry.yl (ry_eq (ev_c hg rfl) (ev_c hg rfl)))) ?_
  refine qt_r (ry_and rfl rfl rfl) ?_
  refine qt_r (ry_assign rfl) ?_
  refine qt_r (ry_assign rfl) ?_
  refine qt_nil ?_
  refine ex_then ?_
  refine cw_ret ?_
  refine ex_ret (.inl rfl) (res_2 rfl (rv_tmp rfl) (rv_tmp rfl)) (fun w1 hw => ?_)
  exact ⟨(by rw [placeB_eq]), Keep.mem hw⟩
instance tplace_i {w0 : World} {L : List Ent} {t : Sv} {ts : List Rt} {p : Pfx} [ht : HdE w0 L rcells 19 t ts] : FnQ Try.prog 86 w0 L [t.val, .agg (pcells p)] (.tuple #[.int .i64 ((placeN ts p : Nat) : Int), .bool (placeB ts p)]) (ts.length ≤ 1000000) := ⟨fun hp w hw => tplace_c w t ts p (ht.h w hw) hp⟩

end Go.Proofs.Ytembaconocgmlaa
