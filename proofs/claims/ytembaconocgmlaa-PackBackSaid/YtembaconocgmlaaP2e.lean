/- A table out of its bodies: walked. -/
import Derived.Test.YtembaconocgmlaaP2d
set_option linter.unusedSimpArgs false
set_option linter.unusedVariables false
namespace Go.Proofs.Ytembaconocgmlaa
open Go.Eng Go.Kb

theorem perm_of_owns {L : List Ent} {e : Ent} {i : Nat} (h : L[i]? = some e) : L.Perm (e :: L.eraseIdx i) := perm_erase h
instance laid_i {w0 : World} {L : List Ent} {s : Sv} {xs : List UInt8} {r : Rt} {i : Nat} {L' : Sv → List Ent} [q : Owns L s benc 1 xs i] [u : ∀ s', Upd L i (own benc 1 s' (xs ++ rbytes r)) (L' s')] : FnC Try.prog 73 w0 L [s.val, .agg (rcells r)] Sv (fun s => s.val) L' (fun _ => True) (xs.length ≤ 1000000) := ⟨fun hp w hw =>
  (laid_c w0 w (L.eraseIdx i) s xs r (hw.perm (perm_erase q.h)) hp).mono fun e w' ⟨s', h1, h2, h3, h4⟩ => ⟨s', h1, trivial, by
    rw [← (u s').h]
    exact h4.perm (set_perm _ L i (At.lt q.h))⟩⟩
set_option maxRecDepth 20000 in
theorem ptable_c (w : World) (a : Sl (Sl UInt8)) (ha : Deep.good (hp w) a) (hpre : a.xs.length ≤ 1000 ∧ ∀ x ∈ a.xs, x.xs.length ≤ 100000) : Calls Try.prog 47 #[a.sv.val] w fun e w' => ∃ zz : Sv, e = .returned (.tuple #[zz.val, .int .i64 (tabE (lx a))]) ∧ (True) ∧ Mem w [own rcells 19 zz (tabV (lx a))] w' := by
  have gha : GvD w a := ⟨ha⟩
  obtain ⟨hpa, hpb⟩ := hpre
  have hl := lx_length a
  refine calls_of (args := [_]) Try.func47 rfl Try.ntmps47 rfl ?_
  change Cw _ _ _ _ _ [(0, a.sv.val)] []
  refine cw_seq ?_
  refine cw_region ?_
  refine sq_r (ry_assign rfl) ?_
  refine sq_r (ry_assign rfl) ?_
  refine sq_nil ?_
  refine ex_then ?_
  refine cw_seq ?_
  refine cw_region ?_
  refine sq_r (ry_assign rfl) ?_
  refine sq_nil ?_
  refine ex_then ?_
  refine cw_seq ?_
  refine cw_seq ?_
  refine cw_region ?_
  refine sq_r (ry_move rfl) ?_
  refine sq_r (ry_lenH rfl) ?_
  refine sq_r (ry_move rfl) ?_
  refine sq_nil ?_
  refine ex_then ?_
  refine cw_block ?_
  refine cw_loop (X := Nat × Sv × List Rt) (fun zz => [(11, .int .i64 (zz.1 : Nat)), (4, zz.2.1.val), (9, a.sv.val), (10, .int .i64 (a.xs.length : Nat))]) (fun zz => [own rcells 19 zz.2.1 zz.2.2]) (fun zz => zz.1 ≤ a.xs.length ∧ untable ((lx a).take zz.1) = some zz.2.2 ∧ zz.2.2.length ≤ zz.1 * 100000) (fun zz => a.xs.length - zz.1) (0, Sv.none, []) ⟨by first | omega | (simp only []; omega), rfl, by simp⟩ (Sub.cons rfl (Sub.cons rfl (Sub.cons rfl (Sub.cons rfl (Sub.nil _))))) (fun w hw => Mem.nilOwn rcells 19 hw) ?_
  rintro ⟨i, t, q⟩ ⟨hi1, hi2, hi3⟩
  dsimp only
  simp only at hi1 hi2 hi3
  refine cw_seq ?_
  refine cw_region ?_
  refine sq_r (ry_int rfl rfl rfl) ?_
  refine sq_nil ?_
  refine ex_then ?_
  refine cw_seq ?_
  refine cw_cond rfl (fun h0 => ?_) (fun h0 => ?_)
  · try simp only [Bool.and_eq_true, Bool.or_eq_true, Bool.and_eq_false_iff, Bool.or_eq_false_iff, Bool.not_eq_true', Bool.not_eq_false', decide_eq_true_eq, decide_eq_false_iff_not, Bool.not_eq_true, Bool.not_eq_false] at h0
    refine cw_skip ?_
    refine ex_then ?_
    refine cw_seq ?_
    refine cw_block ?_
    refine cw_seq ?_
    refine cw_region ?_
    obtain ⟨x, hx⟩ := get_some (xs := a.xs) (i := i) (by omega)
    refine sq_r (ry_idxH rfl rfl i rfl (by omega)) ?_
    refine sq_r (ry_elemcH (j := 0) rfl i hx rfl (by decide)) ?_
    have mbx : Mb x _ := ⟨List.mem_of_getElem? hx⟩
    have ex : (lx a)[i]? = some x.xs := by simp [lx, hx]
    have mb14 : Mb x _ := ⟨List.mem_of_getElem? hx⟩
    refine sq_r (ry_assign rfl) ?_
    refine sq_nil ?_
    refine ex_then ?_
    refine cw_seq ?_
    refine cw_seq ?_
    refine cw_region ?_
    refine sq_r (ry_move rfl) ?_
    refine sq_r (ry_lenH rfl) ?_
    refine sq_r (ry_remn (p := x.xs.length) (q := 20) rfl rfl rfl rfl (by omega)) ?_
    refine sq_r (ry_int rfl rfl rfl) ?_
    refine sq_nil ?_
    refine ex_then ?_
    refine cw_cond rfl (fun h1 => ?_) (fun h1 => ?_)
    · try simp only [Bool.and_eq_true, Bool.or_eq_true, Bool.and_eq_false_iff, Bool.or_eq_false_iff, Bool.not_eq_true', Bool.not_eq_false', decide_eq_true_eq, decide_eq_false_iff_not, Bool.not_eq_true, Bool.not_eq_false] at h1
      have hun : untable (lx a) = none := untable_none (i := i + 1) (by rw [untable_succ ex, hi2, unbody_mod _ x.xs (Nat.le_refl _) (by omega)]; rfl)
      refine cw_seq ?_
      refine cw_region ?_
      refine sq_r (ry_assign rfl) ?_
      refine sq_r (ry_assign rfl) ?_
      refine sq_nil ?_
      refine ex_then ?_
      refine cw_ret ?_
      refine ex_pass_ret ?_
      refine ex_block_ret ?_
      refine ex_pass_ret ?_
      refine ex_pass_ret ?_
      refine ex_block_ret ?_
      refine ex_pass_ret ?_
      refine ex_ret (.inl rfl) (res_2 rfl (rv_tmp rfl) (rv_tmp rfl)) (fun w1 hw => ?_)
      exact ⟨Sv.none, by rw [(tab_none hun).2]; rfl, trivial, by rw [(tab_none hun).1]; exact (Keep.mem hw : Mem w [] _).nilOwn rcells 19⟩
    · try simp only [Bool.and_eq_true, Bool.or_eq_true, Bool.and_eq_false_iff, Bool.or_eq_false_iff, Bool.not_eq_true', Bool.not_eq_false', decide_eq_true_eq, decide_eq_false_iff_not, Bool.not_eq_true, Bool.not_eq_false] at h1
      refine cw_skip ?_
      refine ex_then ?_
      refine cw_block ?_
      refine cw_loop (X := Sv × List UInt8 × Sv × List Rt) (fun zz => [(6, zz.1.val), (4, zz.2.2.1.val), (9, a.sv.val), (10, .int .i64 (a.xs.length : Nat)), (11, .int .i64 (i : Nat))]) (fun zz => [own rcells 19 zz.2.2.1 zz.2.2.2]) (fun zz => ∃ pre, zz.2.2.2 = q ++ pre ∧ unbody x.xs = (unbody zz.2.1).map (pre ++ ·) ∧ Lies benc 1 (hp w) zz.1 zz.2.1 ∧ zz.2.1.length % 20 = 0 ∧ zz.2.2.2.length + zz.2.1.length ≤ (i + 1) * 100000) (fun zz => zz.2.1.length) (x.sv, x.xs, t, q) ⟨[], by simp, by cases unbody x.xs <;> rfl, (ha.2 x (List.mem_of_getElem? hx)).1, by first | omega | (simp only []; omega), by have := hpb x (List.mem_of_getElem? hx); simp only; omega⟩ (Sub.cons rfl (Sub.cons rfl (Sub.cons rfl (Sub.cons rfl (Sub.cons rfl (Sub.nil _)))))) (fun w hw => Keep.mem hw) ?_
      rintro ⟨cu, cs, t2, q2⟩ ⟨pre, hj1, hj2, hj3, hj4, hj5⟩
      dsimp only
      simp only at hj1 hj2 hj3 hj4 hj5
      have gcu : Gv w cu benc 1 cs := ⟨hj3⟩
      refine cw_seq ?_
      refine cw_seq ?_
      refine cw_region ?_
      refine sq_r (ry_move rfl) ?_
      refine sq_r (ry_lenH rfl) ?_
      refine sq_r (ry_int rfl rfl rfl) ?_
      refine sq_nil ?_
      refine ex_then ?_
      refine cw_cond rfl (fun h2 => ?_) (fun h2 => ?_)
      · try simp only [Bool.and_eq_true, Bool.or_eq_true, Bool.and_eq_false_iff, Bool.or_eq_false_iff, Bool.not_eq_true', Bool.not_eq_false', decide_eq_true_eq, decide_eq_false_iff_not, Bool.not_eq_true, Bool.not_eq_false] at h2
        have hc20 : 20 ≤ cs.length := by omega
        have e20 : (cs.drop 0).take (20 - 0) = cs.take 20 := by simp
        have ec := unbody_cons hc20
        rw [rd_eq] at ec
        refine cw_skip ?_
        refine ex_then ?_
        refine cw_seq ?_
        refine cw_block ?_
        refine cw_seq ?_
        refine cw_region ?_
        refine sq_r (ry_move rfl) ?_
        have rg26 : Rg 0 20 cs.length := ⟨by omega⟩
        refine sq_r (ry_subH_hi rfl rfl 20 rfl rg26.h.2) ?_
        refine sq_y (yl_callC rfl (by simp; omega)) ?_
        refine sq_r (ry_move rfl) ?_
        refine sq_r (ry_extract (v := .agg (rcells (rdv ((cs.drop 0).take (20 - 0))))) rfl rfl) ?_
        refine sq_r (ry_extract (v := .bool (rdok ((cs.drop 0).take (20 - 0)))) rfl rfl) ?_
        refine sq_allocA fun b7 => ?_
        refine sq_storeW rfl rfl ?_
        refine sq_r (ry_assign rfl) ?_
        refine sq_nil ?_
        refine ex_then ?_
        refine cw_seq ?_
        refine cw_seq ?_
        refine cw_region ?_
        refine sq_r (ry_move rfl) ?_
        refine sq_r (ry_not rfl) ?_
        refine sq_nil ?_
        refine ex_then ?_
        refine cw_cond rfl (fun h3 => ?_) (fun h3 => ?_)
        · try simp only [Bool.and_eq_true, Bool.or_eq_true, Bool.and_eq_false_iff, Bool.or_eq_false_iff, Bool.not_eq_true', Bool.not_eq_false', decide_eq_true_eq, decide_eq_false_iff_not, Bool.not_eq_true, Bool.not_eq_false] at h3
          rw [e20] at h3
          have hun : untable (lx a) = none := untable_none (i := i + 1) (by rw [untable_succ ex, hi2, hj2, ec, h3]; rfl)
          refine cw_seq ?_
          refine cw_region ?_
          refine sq_r (ry_assign rfl) ?_
          refine sq_r (ry_assign rfl) ?_
          refine sq_nil ?_
          refine ex_then ?_
          refine cw_ret ?_
          refine ex_pass_ret ?_
          refine ex_block_ret ?_
          refine ex_pass_ret ?_
          refine ex_pass_ret ?_
          refine ex_block_ret ?_
          refine ex_block_ret ?_
          refine ex_pass_ret ?_
          refine ex_pass_ret ?_
          refine ex_block_ret ?_
          refine ex_pass_ret ?_
          refine ex_ret (.inl rfl) (res_2 rfl (rv_tmp rfl) (rv_tmp rfl)) (fun w1 hw => ?_)
          exact ⟨Sv.none, by rw [(tab_none hun).2]; rfl, trivial, by rw [(tab_none hun).1]; exact (Keep.mem hw : Mem w [] _).nilOwn rcells 19⟩
        · try simp only [Bool.and_eq_true, Bool.or_eq_true, Bool.and_eq_false_iff, Bool.or_eq_false_iff, Bool.not_eq_true', Bool.not_eq_false', decide_eq_true_eq, decide_eq_false_iff_not, Bool.not_eq_true, Bool.not_eq_false] at h3
          rw [e20] at h3
          rw [h3] at ec
          simp only [if_true, Option.bind_some] at ec
          have ev0 : rdv ((cs.drop 0).take (20 - 0)) = rdroute (cs.take 20) := by rw [e20, rdv, if_pos h3]
          refine cw_skip ?_
          refine ex_then ?_
          refine cw_region ?_
          refine sq_r (ry_move rfl) ?_
          refine sq_r (ry_whole rfl) ?_
          refine sq_buildSlice (enc := rcells) (vals := [_]) [(rdv ((cs.drop 0).take (20 - 0)))] rfl rfl rfl (by decide) (by decide) fun b34 => ?_
          refine sq_append (s := t2) (ys := [(rdv ((cs.drop 0).take (20 - 0)))]) rfl rfl (by decide) (fun w hw => src_rows (s := ⟨false, b34, 0, 1, 1, none⟩) Try.underlying62 (by decide) ((inferInstance : Hd _ _ ⟨false, b34, 0, 1, 1, none⟩ rcells 19 [(rdv ((cs.drop 0).take (20 - 0)))]).h w hw)) (by simp only [List.length_cons, List.length_nil]; omega) (by simp only [List.length_cons, List.length_nil]; omega) fun s35 hs35 hl35 => ?_
          refine sq_r (ry_assign rfl) ?_
          refine sq_nil ?_
          refine ex_block ?_
          refine ex_then ?_
          refine cw_region ?_
          refine sq_r (ry_move rfl) ?_
          have rg23 : Rg 20 cs.length cs.length := ⟨by omega⟩
          refine sq_r (ry_subH_lo rfl rfl 20 rfl rg23.h.1) ?_
          refine sq_r (ry_assign rfl) ?_
          refine sq_nil ?_
          exact ex_again (x := (cu, cs, t2, q2)) (_, cs.drop 20, s35, q2 ++ [rdroute (cs.take 20)]) ⟨pre ++ [rdroute (cs.take 20)], by simp [hj1], by rw [hj2, ec]; cases unbody (cs.drop 20) <;> simp, by have := hj3.sub (lo := 20) (hi := cs.length) (by first | omega | (simp only []; omega)) (Nat.le_refl _); rwa [List.take_of_length_le (by rw [List.length_drop]; omega)] at this, by simp only [List.length_drop]; omega, by simp only [List.length_append, List.length_drop, List.length_cons, List.length_nil]; omega⟩ (by simp only [List.length_drop]; omega) (Sub.cons rfl (Sub.cons rfl (Sub.cons rfl (Sub.cons rfl (Sub.cons rfl (Sub.nil _)))))) (fun w hw => by rw [ev0] at hw; exact Keep.mem hw)
      · try simp only [Bool.and_eq_true, Bool.or_eq_true, Bool.and_eq_false_iff, Bool.or_eq_false_iff, Bool.not_eq_true', Bool.not_eq_false', decide_eq_true_eq, decide_eq_false_iff_not, Bool.not_eq_true, Bool.not_eq_false] at h2
        refine cw_exit ?_
        refine ex_pass_exit ?_
        refine ex_pass_exit ?_
        refine ex_block_hit ?_
        refine ex_block ?_
        refine ex_then ?_
        refine cw_region ?_
        refine sq_r (ry_add rfl rfl (by omega)) ?_
        refine sq_r (ry_move rfl) ?_
        refine sq_nil ?_
        exact ex_again (x := (i, t, q)) (i + 1, t2, q2) ⟨by first | omega | (simp only []; omega), by rw [untable_succ ex, hi2, Option.bind_some, hj2, show cs = [] from List.length_eq_zero_iff.1 (by first | omega | (simp only []; omega)), unbody_nil]; simp [hj1], by simp only; omega⟩ (by simp only; omega) (Sub.cons rfl (Sub.cons rfl (Sub.cons rfl (Sub.cons rfl (Sub.nil _))))) (fun w hw => Keep.mem hw)
  · try simp only [Bool.and_eq_true, Bool.or_eq_true, Bool.and_eq_false_iff, Bool.or_eq_false_iff, Bool.not_eq_true', Bool.not_eq_false', decide_eq_true_eq, decide_eq_false_iff_not, Bool.not_eq_true, Bool.not_eq_false] at h0
    refine cw_exit ?_
    refine ex_pass_exit ?_
    refine ex_pass_exit ?_
    refine ex_block_hit ?_
    refine ex_then ?_
    refine cw_seq ?_
    refine cw_seq ?_
    have hal : untable (lx a) = some q := by rw [← hi2, List.take_of_length_le (by omega)]
    refine cw_region ?_
    refine sq_r (ry_move rfl) ?_
    refine sq_y (yl_callC rfl trivial) ?_
    refine sq_r (ry_not rfl) ?_
    refine sq_nil ?_
    refine ex_then ?_
    refine cw_cond rfl (fun h4 => ?_) (fun h4 => ?_)
    · try simp only [Bool.and_eq_true, Bool.or_eq_true, Bool.and_eq_false_iff, Bool.or_eq_false_iff, Bool.not_eq_true', Bool.not_eq_false', decide_eq_true_eq, decide_eq_false_iff_not, Bool.not_eq_true, Bool.not_eq_false] at h4
      refine cw_seq ?_
      refine cw_region ?_
      refine sq_r (ry_assign rfl) ?_
      refine sq_r (ry_assign rfl) ?_
      refine sq_nil ?_
      refine ex_then ?_
      refine cw_ret ?_
      refine ex_pass_ret ?_
      refine ex_ret (.inl rfl) (res_2 rfl (rv_tmp rfl) (rv_tmp rfl)) (fun w1 hw => ?_)
      exact ⟨Sv.none, by rw [(tab_bad hal h4).2]; rfl, trivial, by rw [(tab_bad hal h4).1]; exact (Keep.mem hw : Mem w [] _).nilOwn rcells 19⟩
    · try simp only [Bool.and_eq_true, Bool.or_eq_true, Bool.and_eq_false_iff, Bool.or_eq_false_iff, Bool.not_eq_true', Bool.not_eq_false', decide_eq_true_eq, decide_eq_false_iff_not, Bool.not_eq_true, Bool.not_eq_false] at h4
      refine cw_skip ?_
      refine ex_then ?_
      refine cw_seq ?_
      refine cw_region ?_
      refine sq_r (ry_move rfl) ?_
      refine sq_r (ry_assign rfl) ?_
      refine sq_r (ry_assign rfl) ?_
      refine sq_nil ?_
      refine ex_then ?_
      refine cw_ret ?_
      refine ex_ret (.inl rfl) (res_2 rfl (rv_tmp rfl) (rv_tmp rfl)) (fun w1 hw => ?_)
      exact ⟨t, by rw [(tab_ok hal h4).2], trivial, by rw [(tab_ok hal h4).1]; exact hw⟩
instance ptable_i {w0 : World} {L : List Ent} {a : Sl (Sl UInt8)} [ha : HdD w0 L a] : FnC Try.prog 47 w0 L [a.sv.val] (Sv) (fun zz => .tuple #[zz.val, .int .i64 (tabE (lx a))]) (fun zz => own rcells 19 zz (tabV (lx a)) :: L) (fun zz => True) (a.xs.length ≤ 1000 ∧ ∀ x ∈ a.xs, x.xs.length ≤ 100000) := ⟨fun hp w hw => (ptable_c w a (ha.h w hw) hp).mono fun e w' ⟨x, h1, h2, h3⟩ => ⟨x, h1, h2, hw.call h3⟩⟩

end Go.Proofs.Ytembaconocgmlaa
