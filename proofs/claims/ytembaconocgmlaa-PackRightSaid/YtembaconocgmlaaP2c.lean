/- What changed, by the reference: walked. -/
import Derived.Test.YtembaconocgmlaaP2b
set_option linter.unusedSimpArgs false
set_option linter.unusedVariables false
namespace Go.Proofs.Ytembaconocgmlaa
open Go.Eng Go.Kb
set_option maxRecDepth 20000 in
theorem rchanged_c (w : World) (a : Sl (Sl UInt8)) (b : Sl (Sl UInt8)) (ha : Deep.good (hp w) a) (hb : Deep.good (hp w) b) (hpre : a.xs.length ≤ 1000000 ∧ b.xs.length ≤ 1000000 ∧ ∀ x ∈ b.xs, x.xs.length ≤ 140737488355328) : Calls Try.prog 54 #[a.sv.val, b.sv.val] w fun e w' => ∃ zz : Sl It, e = .returned (zz.sv.val) ∧ (its zz = chg (lx a) (lx b)) ∧ Mem w [Deep.ent zz] w' := by
  have gha : GvD w a := ⟨ha⟩
  have ghb : GvD w b := ⟨hb⟩
  obtain ⟨hpa, hpb, hpc⟩ := hpre
  refine calls_of (args := [_, _]) Try.func54 rfl Try.ntmps54 rfl ?_
  change Cw _ _ _ _ _ [(0, a.sv.val), (1, b.sv.val)] []
  refine cw_seq ?_
  refine cw_region ?_
  refine sq_r (ry_assign rfl) ?_
  refine sq_nil ?_
  refine ex_then ?_
  refine cw_seq ?_
  refine cw_region ?_
  refine sq_r (ry_assign rfl) ?_
  refine sq_nil ?_
  refine ex_then ?_
  refine cw_seq ?_
  refine cw_seq ?_
  refine cw_region ?_
  refine sq_r (ry_assign rfl) ?_
  refine sq_nil ?_
  refine ex_then ?_
  refine cw_block ?_
  refine cw_loop (X := Nat × Sl It) (fun zz => [(6, .int .i64 (zz.1 : Nat)), (5, zz.2.sv.val), (0, a.sv.val), (1, b.sv.val)]) (fun zz => [Deep.ent zz.2]) (fun zz => zz.1 ≤ max a.xs.length b.xs.length ∧ its zz.2 = chgTo (lx a) (lx b) zz.1) (fun zz => max a.xs.length b.xs.length - zz.1) (0, ⟨Sv.none, []⟩) ⟨by first | omega | (simp only []; omega), rfl⟩ (Sub.cons rfl (Sub.cons rfl (Sub.cons rfl (Sub.cons rfl (Sub.nil _))))) (fun w hw => Mem.nilEnt (enc := icells) (c := 2) hw) ?_
  rintro ⟨i, l⟩ ⟨hi1, hi2⟩
  dsimp only
  refine cw_seq ?_
  refine cw_seq ?_
  refine cw_region ?_
  refine sq_r (ry_move rfl) ?_
  refine sq_r (ry_move rfl) ?_
  refine sq_r (ry_lenH rfl) ?_
  refine sq_r (ry_int rfl rfl rfl) ?_
  refine sq_r (ry_move rfl) ?_
  refine sq_gf rfl rfl rfl (fun hg => (Ry.yl (ry_move rfl))) ?_
  refine sq_gf rfl rfl rfl (fun hg => (Ry.yl (ry_move rfl))) ?_
  refine sq_gf rfl rfl rfl (fun hg => (Ry.yl (ry_lenH (ev_c hg rfl)))) ?_
  refine sq_gf rfl rfl rfl (fun hg => (Ry.yl (ry_int (ev_c hg rfl) (ev_c hg rfl) rfl))) ?_
  refine sq_r (ry_or rfl rfl rfl) ?_
  refine sq_nil ?_
  refine ex_then ?_
  refine cw_cond rfl (fun h0 => ?_) (fun h0 => ?_)
  · try simp only [Bool.and_eq_true, Bool.or_eq_true, Bool.and_eq_false_iff, Bool.or_eq_false_iff, Bool.not_eq_true', Bool.not_eq_false', decide_eq_true_eq, decide_eq_false_iff_not, Bool.not_eq_true, Bool.not_eq_false] at h0
    refine cw_skip ?_
    refine ex_then ?_
    refine cw_seq ?_
    refine cw_block ?_
    refine cw_seq ?_
    refine cw_region ?_
    refine sq_r (ry_assign rfl) ?_
    refine sq_r (ry_assign rfl) ?_
    refine sq_nil ?_
    refine ex_then ?_
    refine cw_cut (X := Unit) (fun zz => [(7, .string ⟨((lx a).getD i []).toArray⟩), (8, .string ⟨[].toArray⟩), (0, a.sv.val), (1, b.sv.val), (5, l.sv.val), (6, .int .i64 (i : Nat))]) (fun zz => [Deep.ent l]) (fun zz => True) ?_ ?_
    · refine cw_seq ?_
      refine cw_region ?_
      refine sq_r (ry_move rfl) ?_
      refine sq_r (ry_move rfl) ?_
      refine sq_r (ry_lenH rfl) ?_
      refine sq_r (ry_int rfl rfl rfl) ?_
      refine sq_nil ?_
      refine ex_then ?_
      refine cw_cond rfl (fun h1 => ?_) (fun h1 => ?_)
      · try simp only [Bool.and_eq_true, Bool.or_eq_true, Bool.and_eq_false_iff, Bool.or_eq_false_iff, Bool.not_eq_true', Bool.not_eq_false', decide_eq_true_eq, decide_eq_false_iff_not, Bool.not_eq_true, Bool.not_eq_false] at h1
        refine cw_region ?_
        refine sq_r (ry_move rfl) ?_
        refine sq_r (ry_move rfl) ?_
        obtain ⟨e27, he27⟩ := get_some (xs := a.xs) (i := i) (by omega)
        refine sq_r (ry_idxH rfl rfl i rfl (by omega)) ?_
        refine sq_r (ry_elemcH (j := 0) rfl i he27 rfl (by decide)) ?_
        have mb28 : Mb e27 _ := ⟨List.mem_of_getElem? he27⟩
        refine sq_r (ry_bstrH Try.underlying30 Try.underlying5 Try.underlying9 rfl) ?_
        refine sq_r (ry_assign rfl) ?_
        refine sq_nil ?_
        exact ex_meet () trivial (Sub.cons (look_eq rfl (by rw [← elAt_xs, elAt_get he27])) (Sub.cons rfl (Sub.cons rfl (Sub.cons rfl (Sub.cons rfl (Sub.cons rfl (Sub.nil _))))))) (fun w hw => Keep.mem hw)
      · try simp only [Bool.and_eq_true, Bool.or_eq_true, Bool.and_eq_false_iff, Bool.or_eq_false_iff, Bool.not_eq_true', Bool.not_eq_false', decide_eq_true_eq, decide_eq_false_iff_not, Bool.not_eq_true, Bool.not_eq_false] at h1
        refine cw_skip ?_
        exact ex_meet () trivial (Sub.cons (look_eq rfl (by rw [← elAt_xs, elAt_none (by omega)])) (Sub.cons rfl (Sub.cons rfl (Sub.cons rfl (Sub.cons rfl (Sub.cons rfl (Sub.nil _))))))) (fun w hw => Keep.mem hw)
    · rintro ⟨⟩ hJ
      refine cw_cut (X := Unit) (fun zz => [(7, .string ⟨((lx a).getD i []).toArray⟩), (8, .string ⟨((lx b).getD i []).toArray⟩), (0, a.sv.val), (1, b.sv.val), (5, l.sv.val), (6, .int .i64 (i : Nat))]) (fun zz => [Deep.ent l]) (fun zz => True) ?_ ?_
      · refine cw_seq ?_
        refine cw_region ?_
        refine sq_r (ry_move rfl) ?_
        refine sq_r (ry_move rfl) ?_
        refine sq_r (ry_lenH rfl) ?_
        refine sq_r (ry_int rfl rfl rfl) ?_
        refine sq_nil ?_
        refine ex_then ?_
        refine cw_cond rfl (fun h2 => ?_) (fun h2 => ?_)
        · try simp only [Bool.and_eq_true, Bool.or_eq_true, Bool.and_eq_false_iff, Bool.or_eq_false_iff, Bool.not_eq_true', Bool.not_eq_false', decide_eq_true_eq, decide_eq_false_iff_not, Bool.not_eq_true, Bool.not_eq_false] at h2
          refine cw_region ?_
          refine sq_r (ry_move rfl) ?_
          refine sq_r (ry_move rfl) ?_
          obtain ⟨e36, he36⟩ := get_some (xs := b.xs) (i := i) (by omega)
          refine sq_r (ry_idxH rfl rfl i rfl (by omega)) ?_
          refine sq_r (ry_elemcH (j := 0) rfl i he36 rfl (by decide)) ?_
          have mb37 : Mb e36 _ := ⟨List.mem_of_getElem? he36⟩
          refine sq_r (ry_bstrH Try.underlying30 Try.underlying5 Try.underlying9 rfl) ?_
          refine sq_r (ry_assign rfl) ?_
          refine sq_nil ?_
          exact ex_meet () trivial (Sub.cons rfl (Sub.cons (look_eq rfl (by rw [← elAt_xs, elAt_get he36])) (Sub.cons rfl (Sub.cons rfl (Sub.cons rfl (Sub.cons rfl (Sub.nil _))))))) (fun w hw => Keep.mem hw)
        · try simp only [Bool.and_eq_true, Bool.or_eq_true, Bool.and_eq_false_iff, Bool.or_eq_false_iff, Bool.not_eq_true', Bool.not_eq_false', decide_eq_true_eq, decide_eq_false_iff_not, Bool.not_eq_true, Bool.not_eq_false] at h2
          refine cw_skip ?_
          exact ex_meet () trivial (Sub.cons rfl (Sub.cons (look_eq rfl (by rw [← elAt_xs, elAt_none (by omega)])) (Sub.cons rfl (Sub.cons rfl (Sub.cons rfl (Sub.cons rfl (Sub.nil _))))))) (fun w hw => Keep.mem hw)
      · rintro ⟨⟩ hJ
        refine cw_seq ?_
        refine cw_region ?_
        refine sq_r (ry_move rfl) ?_
        refine sq_r (ry_move rfl) ?_
        refine sq_r (ry_strneL rfl rfl) ?_
        refine sq_nil ?_
        refine ex_then ?_
        refine cw_cond rfl (fun h3 => ?_) (fun h3 => ?_)
        · try simp only [Bool.and_eq_true, Bool.or_eq_true, Bool.and_eq_false_iff, Bool.or_eq_false_iff, Bool.not_eq_true', Bool.not_eq_false', decide_eq_true_eq, decide_eq_false_iff_not, Bool.not_eq_true, Bool.not_eq_false] at h3
          refine cw_region ?_
          refine sq_r (ry_move rfl) ?_
          refine sq_r (ry_move rfl) ?_
          refine sq_r (ry_move rfl) ?_
          refine sq_strb Try.underlying9 Try.underlying30 Try.underlying5 rfl (by rw [← elAt_xs]; rcases Nat.lt_or_ge i b.xs.length with h | h; exact Nat.le_trans (hpc _ (by rw [elAt_get (List.getElem?_eq_getElem h)]; exact List.getElem_mem h)) (by decide); rw [elAt_none h]; exact Nat.zero_le _) fun s45 => ?_
          refine sq_r (ry_buildc rfl) ?_
          refine sq_buildSlice (enc := icells) (vals := [_]) [(⟨((i : Nat) : Int), ⟨s45, ((lx b).getD i [])⟩⟩ : It)] rfl rfl rfl (by decide) (by decide) fun b47 => ?_
          refine sq_appendD (s := ⟨false, b47, 0, 1, 1, none⟩) l [(⟨((i : Nat) : Int), ⟨s45, ((lx b).getD i [])⟩⟩ : It)] rfl rfl (by decide) (by have := congrArg List.length hi2; have h9 := chgTo_length (lx a) (lx b) i; simp only [its, List.length_map] at this; simp only [List.length_cons, List.length_nil]; omega) (by have := congrArg List.length hi2; have h9 := chgTo_length (lx a) (lx b) i; simp only [its, List.length_map] at this; simp only [List.length_cons, List.length_nil]; omega) fun x48 hx48 => ?_
          refine sq_r (ry_assign rfl) ?_
          refine sq_nil ?_
          refine ex_block ?_
          refine ex_then ?_
          refine cw_region ?_
          refine sq_r (ry_move rfl) ?_
          refine sq_r (ry_add rfl rfl (by omega)) ?_
          refine sq_r (ry_assign rfl) ?_
          refine sq_nil ?_
          exact ex_again (x := (i, l)) (i + 1, x48) ⟨by first | omega | (simp only []; omega), by rw [its, hx48, List.map_append, chgTo_yes h3, ← hi2]; rfl⟩ (by simp only; omega) (Sub.cons rfl (Sub.cons rfl (Sub.cons rfl (Sub.cons rfl (Sub.nil _))))) (fun w hw => Keep.mem hw)
        · try simp only [Bool.and_eq_true, Bool.or_eq_true, Bool.and_eq_false_iff, Bool.or_eq_false_iff, Bool.not_eq_true', Bool.not_eq_false', decide_eq_true_eq, decide_eq_false_iff_not, Bool.not_eq_true, Bool.not_eq_false] at h3
          refine cw_skip ?_
          refine ex_block ?_
          refine ex_then ?_
          refine cw_region ?_
          refine sq_r (ry_move rfl) ?_
          refine sq_r (ry_add rfl rfl (by omega)) ?_
          refine sq_r (ry_assign rfl) ?_
          refine sq_nil ?_
          exact ex_again (x := (i, l)) (i + 1, l) ⟨by first | omega | (simp only []; omega), by rw [chgTo_no h3]; exact hi2⟩ (by simp only; omega) (Sub.cons rfl (Sub.cons rfl (Sub.cons rfl (Sub.cons rfl (Sub.nil _))))) (fun w hw => Keep.mem hw)
  · try simp only [Bool.and_eq_true, Bool.or_eq_true, Bool.and_eq_false_iff, Bool.or_eq_false_iff, Bool.not_eq_true', Bool.not_eq_false', decide_eq_true_eq, decide_eq_false_iff_not, Bool.not_eq_true, Bool.not_eq_false] at h0
    refine cw_exit ?_
    refine ex_pass_exit ?_
    refine ex_pass_exit ?_
    refine ex_block_hit ?_
    refine ex_then ?_
    refine cw_seq ?_
    refine cw_region ?_
    refine sq_r (ry_move rfl) ?_
    refine sq_r (ry_assign rfl) ?_
    refine sq_nil ?_
    refine ex_then ?_
    refine cw_ret ?_
    refine ex_ret (.inl rfl) (res_1 rfl (rv_tmp rfl)) (fun w1 hw => ?_)
    exact ⟨l, rfl, (by rw [hi2, chg, lx_length, lx_length, show i = max a.xs.length b.xs.length by omega]), Keep.mem hw⟩
instance rchanged_i {w0 : World} {L : List Ent} {a : Sl (Sl UInt8)} {b : Sl (Sl UInt8)} [ha : HdD w0 L a] [hb : HdD w0 L b] : FnC Try.prog 54 w0 L [a.sv.val, b.sv.val] (Sl It) (fun zz => zz.sv.val) (fun zz => Deep.ent zz :: L) (fun zz => its zz = chg (lx a) (lx b)) (a.xs.length ≤ 1000000 ∧ b.xs.length ≤ 1000000 ∧ ∀ x ∈ b.xs, x.xs.length ≤ 140737488355328) := ⟨fun hp w hw => (rchanged_c w a b (ha.h w hw) (hb.h w hw) hp).mono fun e w' ⟨x, h1, h2, h3⟩ => ⟨x, h1, h2, hw.call h3⟩⟩

end Go.Proofs.Ytembaconocgmlaa
