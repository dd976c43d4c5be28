/- Bytes compared, cloned; what changed: walked. -/
import Derived.Test.YtembaconocgmlaaP2a
set_option linter.unusedSimpArgs false
set_option linter.unusedVariables false
namespace Go.Proofs.Ytembaconocgmlaa
open Go.Eng Go.Kb

instance (i : Int) (s : Sv) : BuildT Try.prog 78 [(0, .int .i64 i), (1, s.val)] (.agg #[.int .i64 i, s.val]) := ⟨fun w => by
  obtain ⟨n, b, o, l, c⟩ := s
  cases n <;> kernel_rfl⟩
set_option maxRecDepth 20000 in
theorem body_c (w : World) (s : Sl (Sl UInt8)) (i : Nat) (hs : Deep.good (hp w) s) : Calls Try.prog 77 #[s.sv.val, .int .i64 (i : Nat)] w fun e w' => e = .returned (((elAt s i).sv).val) ∧ Mem w [] w' := by
  have ghs : GvD w s := ⟨hs⟩
  refine calls_of (args := [_, _]) Try.func77 rfl Try.ntmps77 rfl ?_
  change Cw _ _ _ _ _ [(0, s.sv.val), (1, .int .i64 (i : Nat))] []
  refine cw_seq ?_
  refine cw_region ?_
  refine sq_r (ry_assign rfl) ?_
  refine sq_nil ?_
  refine ex_then ?_
  refine cw_seq ?_
  refine cw_seq ?_
  refine cw_region ?_
  refine sq_r (ry_move rfl) ?_
  refine sq_r (ry_move rfl) ?_
  refine sq_r (ry_lenH rfl) ?_
  refine sq_r (ry_int rfl rfl rfl) ?_
  refine sq_nil ?_
  refine ex_then ?_
  refine cw_cond rfl (fun h0 => ?_) (fun h0 => ?_)
  · try simp only [Bool.and_eq_true, Bool.or_eq_true, Bool.and_eq_false_iff, Bool.or_eq_false_iff, Bool.not_eq_true', Bool.not_eq_false', decide_eq_true_eq, decide_eq_false_iff_not, Bool.not_eq_true, Bool.not_eq_false] at h0
    refine cw_seq ?_
    refine cw_region ?_
    refine sq_r (ry_assign rfl) ?_
    refine sq_nil ?_
    refine ex_then ?_
    refine cw_ret ?_
    refine ex_pass_ret ?_
    refine ex_ret (.inl rfl) (res_1 rfl (rv_tmp rfl)) (fun w1 hw => ?_)
    exact ⟨by rw [elAt_none (by omega)]; rfl, Keep.mem hw⟩
  · try simp only [Bool.and_eq_true, Bool.or_eq_true, Bool.and_eq_false_iff, Bool.or_eq_false_iff, Bool.not_eq_true', Bool.not_eq_false', decide_eq_true_eq, decide_eq_false_iff_not, Bool.not_eq_true, Bool.not_eq_false] at h0
    refine cw_skip ?_
    refine ex_then ?_
    refine cw_seq ?_
    refine cw_region ?_
    refine sq_r (ry_move rfl) ?_
    refine sq_r (ry_move rfl) ?_
    obtain ⟨u, hu⟩ := get_some (xs := s.xs) (i := i) (by omega)
    refine sq_r (ry_idxH rfl rfl i rfl (by omega)) ?_
    refine sq_r (ry_elemcH (j := 0) rfl i hu rfl (by decide)) ?_
    have mb12 : Mb u _ := ⟨List.mem_of_getElem? hu⟩
    refine sq_r (ry_assign rfl) ?_
    refine sq_nil ?_
    refine ex_then ?_
    refine cw_ret ?_
    refine ex_ret (.inl rfl) (res_1 rfl (rv_tmp rfl)) (fun w1 hw => ?_)
    exact ⟨by rw [elAt_get hu], Keep.mem hw⟩
instance body_i {w0 : World} {L : List Ent} {s : Sl (Sl UInt8)} {i : Nat} [hs : HdD w0 L s] : FnQ Try.prog 77 w0 L [s.sv.val, .int .i64 (i : Nat)] (((elAt s i).sv).val) (True) := ⟨fun hp w hw => body_c w s i (hs.h w hw)⟩

set_option maxRecDepth 20000 in
theorem beq_c (w : World) (x : Sv) (xs : List UInt8) (y : Sv) (ys : List UInt8) (hx : Lies benc 1 (hp w) x xs) (hy : Lies benc 1 (hp w) y ys) : Calls Try.prog 78 #[x.val, y.val] w fun e w' => e = .returned (.bool (decide (xs = ys))) ∧ Mem w [] w' := by
  have ghx : Gv w x benc 1 xs := ⟨hx⟩
  have ghy : Gv w y benc 1 ys := ⟨hy⟩
  refine calls_of (args := [_, _]) Try.func78 rfl Try.ntmps78 rfl ?_
  change Cw _ _ _ _ _ [(0, x.val), (1, y.val)] []
  refine cw_seq ?_
  refine cw_region ?_
  refine sq_r (ry_assign rfl) ?_
  refine sq_nil ?_
  refine ex_then ?_
  refine cw_seq ?_
  refine cw_region ?_
  refine sq_r (ry_move rfl) ?_
  refine sq_r (ry_bstrH Try.underlying30 Try.underlying5 Try.underlying9 rfl) ?_
  refine sq_r (ry_move rfl) ?_
  refine sq_r (ry_bstrH Try.underlying30 Try.underlying5 Try.underlying9 rfl) ?_
  refine sq_r (ry_streqL rfl rfl) ?_
  refine sq_r (ry_assign rfl) ?_
  refine sq_nil ?_
  refine ex_then ?_
  refine cw_ret ?_
  refine ex_ret (.inl rfl) (res_1 rfl (rv_tmp rfl)) (fun w1 hw => ?_)
  exact ⟨congrArg (fun b => Ending.returned (Value.bool b)) (rfl), Keep.mem hw⟩
instance beq_i {w0 : World} {L : List Ent} {x : Sv} {xs : List UInt8} {y : Sv} {ys : List UInt8} [hx : HdE w0 L benc 1 x xs] [hy : HdE w0 L benc 1 y ys] : FnQ Try.prog 78 w0 L [x.val, y.val] (.bool (decide (xs = ys))) (True) := ⟨fun hp w hw => beq_c w x xs y ys (hx.h w hw) (hy.h w hw)⟩

set_option maxRecDepth 20000 in
theorem bclone_c (w : World) (x : Sv) (xs : List UInt8) (hx : Lies benc 1 (hp w) x xs) (hpre : xs.length ≤ 140737488355328) : Calls Try.prog 79 #[x.val] w fun e w' => ∃ zz : Sv, e = .returned (zz.val) ∧ (True) ∧ Mem w [own benc 1 zz xs] w' := by
  have ghx : Gv w x benc 1 xs := ⟨hx⟩
  refine calls_of (args := [_]) Try.func79 rfl Try.ntmps79 rfl ?_
  change Cw _ _ _ _ _ [(0, x.val)] []
  refine cw_seq ?_
  refine cw_region ?_
  refine sq_r (ry_assign rfl) ?_
  refine sq_nil ?_
  refine ex_then ?_
  refine cw_seq ?_
  refine cw_seq ?_
  refine cw_region ?_
  refine sq_r (ry_move rfl) ?_
  refine sq_r (ry_nilS Try.underlying30 rfl) ?_
  refine sq_nil ?_
  refine ex_then ?_
  refine cw_cond rfl (fun h0 => ?_) (fun h0 => ?_)
  · try simp only [Bool.and_eq_true, Bool.or_eq_true, Bool.and_eq_false_iff, Bool.or_eq_false_iff, Bool.not_eq_true', Bool.not_eq_false', decide_eq_true_eq, decide_eq_false_iff_not, Bool.not_eq_true, Bool.not_eq_false] at h0
    have e0 : xs = [] := List.length_eq_zero_iff.1 (by have := hx.ok.nil h0; have := hx.len; omega)
    refine cw_seq ?_
    refine cw_region ?_
    refine sq_r (ry_assign rfl) ?_
    refine sq_nil ?_
    refine ex_then ?_
    refine cw_ret ?_
    refine ex_pass_ret ?_
    refine ex_ret (.inl rfl) (res_1 rfl (rv_tmp rfl)) (fun w1 hw => ?_)
    exact ⟨Sv.none, rfl, trivial, by rw [e0]; exact (Keep.mem hw : Mem w [] _).nilOwn benc 1⟩
  · try simp only [Bool.and_eq_true, Bool.or_eq_true, Bool.and_eq_false_iff, Bool.or_eq_false_iff, Bool.not_eq_true', Bool.not_eq_false', decide_eq_true_eq, decide_eq_false_iff_not, Bool.not_eq_true, Bool.not_eq_false] at h0
    refine cw_skip ?_
    refine ex_then ?_
    refine cw_seq ?_
    refine cw_region ?_
    refine sq_build0 benc fun b5 => ?_
    refine sq_r (ry_move rfl) ?_
    refine sq_append (s := ⟨false, b5, 0, 0, 0, none⟩) (ys := xs) rfl rfl (by decide) (fun w hw => src_rows (s := x) Try.underlying30 (by decide) ((inferInstance : Hd _ _ x benc 1 xs).h w hw)) (by simp only [List.length_append, List.length_cons, List.length_nil]; omega) (by simp only [List.length_append, List.length_cons, List.length_nil]; omega) fun s7 hs7 hl7 => ?_
    refine sq_r (ry_assign rfl) ?_
    refine sq_nil ?_
    refine ex_then ?_
    refine cw_ret ?_
    refine ex_ret (.inl rfl) (res_1 rfl (rv_tmp rfl)) (fun w1 hw => ?_)
    exact ⟨s7, rfl, trivial, by simpa using hw⟩
instance bclone_i {w0 : World} {L : List Ent} {x : Sv} {xs : List UInt8} [hx : HdE w0 L benc 1 x xs] : FnC Try.prog 79 w0 L [x.val] (Sv) (fun zz => zz.val) (fun zz => own benc 1 zz xs :: L) (fun zz => True) (xs.length ≤ 140737488355328) := ⟨fun hp w hw => (bclone_c w x xs (hx.h w hw) hp).mono fun e w' ⟨x, h1, h2, h3⟩ => ⟨x, h1, h2, hw.call h3⟩⟩
set_option maxRecDepth 20000 in
theorem changed_c (w : World) (a : Sl (Sl UInt8)) (b : Sl (Sl UInt8)) (ha : Deep.good (hp w) a) (hb : Deep.good (hp w) b) (hpre : a.xs.length ≤ 1000000 ∧ b.xs.length ≤ 1000000 ∧ ∀ x ∈ b.xs, x.xs.length ≤ 140737488355328) : Calls Try.prog 53 #[a.sv.val, b.sv.val] w fun e w' => ∃ zz : Sl It, e = .returned (zz.sv.val) ∧ (its zz = chg (lx a) (lx b)) ∧ Mem w [Deep.ent zz] w' := by
  have gha : GvD w a := ⟨ha⟩
  have ghb : GvD w b := ⟨hb⟩
  obtain ⟨hpa, hpb, hpc⟩ := hpre
  refine calls_of (args := [_, _]) Try.func53 rfl Try.ntmps53 rfl ?_
  change Cw _ _ _ _ _ [(0, a.sv.val), (1, b.sv.val)] []
  refine cw_seq ?_
  refine cw_region ?_
  refine sq_r (ry_assign rfl) ?_
  refine sq_nil ?_
  refine ex_then ?_
  refine cw_seq ?_
  refine cw_region ?_
  refine sq_r (ry_assign rfl) ?_
  refine sq_nil ?_
  refine ex_then ?_
  refine cw_seq ?_
  refine cw_seq ?_
  refine cw_region ?_
  refine sq_r (ry_move rfl) ?_
  refine sq_r (ry_lenH rfl) ?_
  refine sq_r (ry_move rfl) ?_
  refine sq_r (ry_lenH rfl) ?_
  refine sq_r (ry_max rfl rfl) ?_
  refine sq_r (ry_move rfl) ?_
  refine sq_nil ?_
  refine ex_then ?_
  refine cw_block ?_
  refine cw_loop (X := Nat × Sl It) (fun zz => [(13, .int .i64 (zz.1 : Nat)), (5, zz.2.sv.val), (0, a.sv.val), (1, b.sv.val), (12, .int .i64 (max (a.xs.length : Int) (b.xs.length : Int)))]) (fun zz => [Deep.ent zz.2]) (fun zz => zz.1 ≤ max a.xs.length b.xs.length ∧ its zz.2 = chgTo (lx a) (lx b) zz.1) (fun zz => max a.xs.length b.xs.length - zz.1) (0, ⟨Sv.none, []⟩) ⟨by first | omega | (simp only []; omega), rfl⟩ (Sub.cons rfl (Sub.cons rfl (Sub.cons rfl (Sub.cons rfl (Sub.cons rfl (Sub.nil _)))))) (fun w hw => Mem.nilEnt (enc := icells) (c := 2) hw) ?_
  rintro ⟨i, l⟩ ⟨hi1, hi2⟩
  dsimp only
  refine cw_seq ?_
  refine cw_region ?_
  refine sq_r (ry_int rfl rfl rfl) ?_
  refine sq_nil ?_
  refine ex_then ?_
  refine cw_seq ?_
  refine cw_cond rfl (fun h0 => ?_) (fun h0 => ?_)
  · try simp only [Bool.and_eq_true, Bool.or_eq_true, Bool.and_eq_false_iff, Bool.or_eq_false_iff, Bool.not_eq_true', Bool.not_eq_false', decide_eq_true_eq, decide_eq_false_iff_not, Bool.not_eq_true, Bool.not_eq_false] at h0
    refine cw_skip ?_
    refine ex_then ?_
    refine cw_seq ?_
    refine cw_block ?_
    refine cw_seq ?_
    refine cw_region ?_
    refine sq_r (ry_move rfl) ?_
    refine sq_r (ry_assign rfl) ?_
    refine sq_nil ?_
    refine ex_then ?_
    refine cw_seq ?_
    refine cw_region ?_
    refine sq_r (ry_move rfl) ?_
    refine sq_r (ry_move rfl) ?_
    refine sq_y (yl_callC rfl trivial) ?_
    refine sq_r (ry_assign rfl) ?_
    refine sq_nil ?_
    refine ex_then ?_
    refine cw_seq ?_
    refine cw_region ?_
    refine sq_r (ry_move rfl) ?_
    refine sq_r (ry_move rfl) ?_
    refine sq_y (yl_callC rfl trivial) ?_
    refine sq_r (ry_move rfl) ?_
    refine sq_y (yl_callC rfl trivial) ?_
    refine sq_r (ry_not rfl) ?_
    refine sq_nil ?_
    refine ex_then ?_
    refine cw_cond rfl (fun h1 => ?_) (fun h1 => ?_)
    · try simp only [Bool.and_eq_true, Bool.or_eq_true, Bool.and_eq_false_iff, Bool.or_eq_false_iff, Bool.not_eq_true', Bool.not_eq_false', decide_eq_true_eq, decide_eq_false_iff_not, Bool.not_eq_true, Bool.not_eq_false] at h1
      refine cw_region ?_
      refine sq_r (ry_move rfl) ?_
      refine sq_r (ry_move rfl) ?_
      refine sq_r (ry_move rfl) ?_
      refine sq_callC rfl (by rcases Nat.lt_or_ge i b.xs.length with h | h; exact hpc _ (by rw [elAt_get (List.getElem?_eq_getElem h)]; exact List.getElem_mem h); rw [elAt_none h]; exact Nat.zero_le _) fun x28 hp28 => ?_
      refine sq_r (ry_buildc rfl) ?_
      refine sq_buildSlice (enc := icells) (vals := [_]) [(⟨((i : Nat) : Int), ⟨x28, (elAt b i).xs⟩⟩ : It)] rfl rfl rfl (by decide) (by decide) fun b30 => ?_
      refine sq_appendD (s := ⟨false, b30, 0, 1, 1, none⟩) l [(⟨((i : Nat) : Int), ⟨x28, (elAt b i).xs⟩⟩ : It)] rfl rfl (by decide) (by have := congrArg List.length hi2; have h9 := chgTo_length (lx a) (lx b) i; simp only [its, List.length_map] at this; simp only [List.length_cons, List.length_nil]; omega) (by have := congrArg List.length hi2; have h9 := chgTo_length (lx a) (lx b) i; simp only [its, List.length_map] at this; simp only [List.length_cons, List.length_nil]; omega) fun x31 hx31 => ?_
      refine sq_r (ry_assign rfl) ?_
      refine sq_nil ?_
      refine ex_block ?_
      refine ex_then ?_
      refine cw_region ?_
      refine sq_r (ry_add rfl rfl (by omega)) ?_
      refine sq_r (ry_move rfl) ?_
      refine sq_nil ?_
      exact ex_again (x := (i, l)) (i + 1, x31) ⟨by first | omega | (simp only []; omega), by rw [its, hx31, List.map_append, chgTo_yes (by rw [← elAt_xs, ← elAt_xs]; exact h1), ← hi2, ← elAt_xs]; rfl⟩ (by simp only; omega) (Sub.cons rfl (Sub.cons rfl (Sub.cons rfl (Sub.cons rfl (Sub.cons rfl (Sub.nil _)))))) (fun w hw => Keep.mem hw)
    · try simp only [Bool.and_eq_true, Bool.or_eq_true, Bool.and_eq_false_iff, Bool.or_eq_false_iff, Bool.not_eq_true', Bool.not_eq_false', decide_eq_true_eq, decide_eq_false_iff_not, Bool.not_eq_true, Bool.not_eq_false] at h1
      refine cw_skip ?_
      refine ex_block ?_
      refine ex_then ?_
      refine cw_region ?_
      refine sq_r (ry_add rfl rfl (by omega)) ?_
      refine sq_r (ry_move rfl) ?_
      refine sq_nil ?_
      exact ex_again (x := (i, l)) (i + 1, l) ⟨by first | omega | (simp only []; omega), by rw [chgTo_no (by rw [← elAt_xs, ← elAt_xs]; exact h1)]; exact hi2⟩ (by simp only; omega) (Sub.cons rfl (Sub.cons rfl (Sub.cons rfl (Sub.cons rfl (Sub.cons rfl (Sub.nil _)))))) (fun w hw => Keep.mem hw)
  · try simp only [Bool.and_eq_true, Bool.or_eq_true, Bool.and_eq_false_iff, Bool.or_eq_false_iff, Bool.not_eq_true', Bool.not_eq_false', decide_eq_true_eq, decide_eq_false_iff_not, Bool.not_eq_true, Bool.not_eq_false] at h0
    refine cw_exit ?_
    refine ex_pass_exit ?_
    refine ex_pass_exit ?_
    refine ex_block_hit ?_
    refine ex_then ?_
    refine cw_seq ?_
    refine cw_region ?_
    refine sq_r (ry_move rfl) ?_
    refine sq_r (ry_assign rfl) ?_
    refine sq_nil ?_
    refine ex_then ?_
    refine cw_ret ?_
    refine ex_ret (.inl rfl) (res_1 rfl (rv_tmp rfl)) (fun w1 hw => ?_)
    exact ⟨l, rfl, (by rw [hi2, chg, lx_length, lx_length, show i = max a.xs.length b.xs.length by omega]), Keep.mem hw⟩
instance changed_i {w0 : World} {L : List Ent} {a : Sl (Sl UInt8)} {b : Sl (Sl UInt8)} [ha : HdD w0 L a] [hb : HdD w0 L b] : FnC Try.prog 53 w0 L [a.sv.val, b.sv.val] (Sl It) (fun zz => zz.sv.val) (fun zz => Deep.ent zz :: L) (fun zz => its zz = chg (lx a) (lx b)) (a.xs.length ≤ 1000000 ∧ b.xs.length ≤ 1000000 ∧ ∀ x ∈ b.xs, x.xs.length ≤ 140737488355328) := ⟨fun hp w hw => (changed_c w a b (ha.h w hw) (hb.h w hw) hp).mono fun e w' ⟨x, h1, h2, h3⟩ => ⟨x, h1, h2, hw.call h3⟩⟩

end Go.Proofs.Ytembaconocgmlaa
