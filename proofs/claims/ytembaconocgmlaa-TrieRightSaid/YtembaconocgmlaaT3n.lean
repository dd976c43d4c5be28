/- The ways of a table, by the reference: walked. -/
import Derived.Test.YtembaconocgmlaaT3m
set_option linter.unusedSimpArgs false
set_option linter.unusedVariables false
namespace Go.Proofs.Ytembaconocgmlaa
open Go.Eng Go.Kb
set_option maxRecDepth 20000 in
theorem rways_c (w : World) (t : Sv) (ts : List Rt) (bits : Int) (ht : Lies rcells 19 (hp w) t ts) (hpre : (∀ r ∈ ts, pmay r.p = true) ∧ ts.length ≤ 256) : Calls Try.prog 82 #[t.val, .int .i64 bits] w fun e w' => ∃ zz : Sv, e = .returned (zz.val) ∧ (True) ∧ Mem w [own wcells 17 zz (waysF bits ts)] w' := by
  have ght : Gv w t rcells 19 ts := ⟨ht⟩
  obtain ⟨hm, hlen⟩ := hpre
  refine calls_of (args := [_, _]) Try.func82 rfl Try.ntmps82 rfl ?_
  change Cw _ _ _ _ _ [(0, t.val), (1, .int .i64 bits)] []
  refine cw_seq ?_
  refine cw_region ?_
  refine sq_r (ry_assign rfl) ?_
  refine sq_nil ?_
  refine ex_then ?_
  refine cw_seq ?_
  refine cw_region ?_
  refine sq_r (ry_buildc rfl) ?_
  refine sq_buildSlice (enc := wcells) (vals := [_]) [root] rfl rfl rfl (by decide) (by decide) fun b12 => ?_
  refine sq_r (ry_assign rfl) ?_
  refine sq_nil ?_
  refine ex_then ?_
  refine cw_seq ?_
  refine cw_seq ?_
  refine cw_region ?_
  refine sq_r (ry_assign rfl) ?_
  refine sq_nil ?_
  refine ex_then ?_
  refine cw_block ?_
  refine cw_loop (X := Nat × Sv) (fun zz => [(6, .int .i64 (zz.1 : Nat)), (5, zz.2.val), (0, t.val), (1, .int .i64 bits)]) (fun zz => [own wcells 17 zz.2 (waysF bits (ts.take zz.1))]) (fun zz => zz.1 ≤ ts.length) (fun zz => ts.length - zz.1) (0, ⟨false, b12, 0, 1, 1, none⟩) (Nat.zero_le _) (Sub.cons rfl (Sub.cons rfl (Sub.cons rfl (Sub.cons rfl (Sub.nil _))))) (fun w hw => (Keep.mem hw : Mem _ [own wcells 17 ⟨false, b12, 0, 1, 1, none⟩ [root]] _)) ?_
  rintro ⟨i, s1⟩ hi
  dsimp only
  simp only at hi
  have hwl := ways_few (bits := bits) (t := ts) i
  have hwl2 := (allR_take (bits := bits) i hm).2
  refine cw_seq ?_
  refine cw_seq ?_
  refine cw_region ?_
  refine sq_r (ry_move rfl) ?_
  refine sq_r (ry_move rfl) ?_
  refine sq_r (ry_lenH rfl) ?_
  refine sq_r (ry_int rfl rfl rfl) ?_
  refine sq_nil ?_
  refine ex_then ?_
  refine cw_cond rfl (fun h0 => ?_) (fun h0 => ?_)
  · try simp only [Bool.and_eq_true, Bool.or_eq_true, Bool.and_eq_false_iff, Bool.or_eq_false_iff, Bool.not_eq_true', Bool.not_eq_false', decide_eq_true_eq, decide_eq_false_iff_not, Bool.not_eq_true, Bool.not_eq_false] at h0
    refine cw_skip ?_
    refine ex_then ?_
    refine cw_seq ?_
    refine cw_block ?_
    refine cw_seq ?_
    refine cw_seq ?_
    refine cw_region ?_
    refine sq_r (ry_move rfl) ?_
    refine sq_r (ry_move rfl) ?_
    obtain ⟨e, he⟩ := get_some (xs := ts) (i := i) (by omega)
    refine sq_r (ry_idxH rfl rfl i rfl (by omega)) ?_
    refine sq_r (ry_field rfl rfl) ?_
    refine sq_r (ry_field rfl rfl) ?_
    refine sq_r (ry_elemcH (j := 0) rfl i he rfl (by decide)) ?_
    refine sq_r (ry_move rfl) ?_
    refine sq_r (ry_int rfl rfl rfl) ?_
    refine sq_nil ?_
    refine ex_then ?_
    refine cw_cond rfl (fun h1 => ?_) (fun h1 => ?_)
    · try simp only [Bool.and_eq_true, Bool.or_eq_true, Bool.and_eq_false_iff, Bool.or_eq_false_iff, Bool.not_eq_true', Bool.not_eq_false', decide_eq_true_eq, decide_eq_false_iff_not, Bool.not_eq_true, Bool.not_eq_false] at h1
      refine cw_exit ?_
      refine ex_pass_exit ?_
      refine ex_block_hit ?_
      refine ex_then ?_
      refine cw_region ?_
      refine sq_r (ry_move rfl) ?_
      refine sq_r (ry_add rfl rfl (by omega)) ?_
      refine sq_r (ry_assign rfl) ?_
      refine sq_nil ?_
      exact ex_again (x := (i, s1)) (i + 1, s1) (by simp only; omega) (by simp only; omega) (Sub.cons rfl (Sub.cons rfl (Sub.cons rfl (Sub.cons rfl (Sub.nil _))))) (fun w hw => by rw [ways_take he, addWs, if_neg h1]; exact Keep.mem hw)
    · try simp only [Bool.and_eq_true, Bool.or_eq_true, Bool.and_eq_false_iff, Bool.or_eq_false_iff, Bool.not_eq_true', Bool.not_eq_false', decide_eq_true_eq, decide_eq_false_iff_not, Bool.not_eq_true, Bool.not_eq_false] at h1
      have hme := hm _ (List.mem_of_getElem? he)
      obtain ⟨hq1, hq2, hq3, hq4⟩ := (pmay_iff _).1 hme
      have hln := lastN_lt hme
      refine cw_skip ?_
      refine ex_then ?_
      refine cw_seq ?_
      refine cw_region ?_
      refine sq_r (ry_assign rfl) ?_
      refine sq_nil ?_
      refine ex_then ?_
      refine cw_block ?_
      refine cw_loop (X := Nat × Sv) (fun zz => [(7, .int .i64 ((zz.1 + 1) : Nat)), (5, zz.2.val), (0, t.val), (1, .int .i64 bits), (6, .int .i64 (i : Nat))]) (fun zz => [own wcells 17 zz.2 (addTo (waysF bits (ts.take i)) e.p zz.1)]) (fun zz => zz.1 ≤ lastN e.p) (fun zz => lastN e.p - zz.1) (0, s1) (Nat.zero_le _) (Sub.cons rfl (Sub.cons rfl (Sub.cons rfl (Sub.cons rfl (Sub.cons rfl (Sub.nil _)))))) (fun w hw => (Keep.mem hw : Mem _ [own wcells 17 s1 (waysF bits (ts.take i))] _)) ?_
      rintro ⟨s, s2⟩ hs
      dsimp only
      simp only at hs
      have hal := addTo_length (W := waysF bits (ts.take i)) (p := e.p) s
      refine cw_seq ?_
      refine cw_seq ?_
      refine cw_region ?_
      refine sq_r (ry_move rfl) ?_
      refine sq_r (ry_move rfl) ?_
      refine sq_r (ry_move rfl) ?_
      refine sq_r (ry_idxH rfl rfl i rfl (by omega)) ?_
      refine sq_r (ry_field rfl rfl) ?_
      refine sq_r (ry_elempH (j := 0) rfl i he rfl (by decide)) ?_
      refine sq_y (yl_callC rfl (by omega)) ?_
      refine sq_r (ry_int rfl rfl rfl) ?_
      refine sq_nil ?_
      refine ex_then ?_
      refine cw_cond rfl (fun h2 => ?_) (fun h2 => ?_)
      · try simp only [Bool.and_eq_true, Bool.or_eq_true, Bool.and_eq_false_iff, Bool.or_eq_false_iff, Bool.not_eq_true', Bool.not_eq_false', decide_eq_true_eq, decide_eq_false_iff_not, Bool.not_eq_true, Bool.not_eq_false] at h2
        refine cw_skip ?_
        refine ex_then ?_
        refine cw_seq ?_
        refine cw_block ?_
        refine cw_seq ?_
        refine cw_region ?_
        refine sq_r (ry_move rfl) ?_
        refine sq_r (ry_move rfl) ?_
        refine sq_r (ry_move rfl) ?_
        refine sq_r (ry_idxH rfl rfl i rfl (by omega)) ?_
        refine sq_r (ry_field rfl rfl) ?_
        refine sq_r (ry_field rfl rfl) ?_
        refine sq_r (ry_elempH (j := 2) rfl i he rfl (by decide)) ?_
        refine sq_r (ry_move rfl) ?_
        refine sq_r (ry_mul rfl rfl (by omega)) ?_
        refine sq_y (yl_callC rfl trivial) ?_
        refine sq_r (Ry.to (v' := .agg (wcells (wayAt e.p.key (s + 1)))) (ry_buildc rfl) rfl) ?_
        refine sq_allocA fun b8 => ?_
        refine sq_storeW rfl rfl ?_
        refine sq_nil ?_
        refine ex_then ?_
        refine cw_seq ?_
        refine cw_region ?_
        refine sq_r (ry_assign rfl) ?_
        refine sq_nil ?_
        refine ex_then ?_
        refine cw_seq ?_
        refine cw_seq ?_
        refine cw_region ?_
        refine sq_r (ry_assign rfl) ?_
        refine sq_nil ?_
        refine ex_then ?_
        refine cw_block ?_
        refine cw_bd s2 fun hbd => ?_
        refine cw_loop (X := Nat) (fun zz => [(10, .int .i64 (zz : Nat)), (9, .bool (decide ((wayAt e.p.key (s + 1)) ∈ (addTo (waysF bits (ts.take i)) e.p s).take zz))), (0, t.val), (1, .int .i64 bits), (5, s2.val), (6, .int .i64 (i : Nat)), (7, .int .i64 ((s + 1) : Nat)), (8, .pointer (some ⟨b8, 0, none⟩))]) (fun zz => [blk b8 (wcells (wayAt e.p.key (s + 1))) 128, own wcells 17 s2 (addTo (waysF bits (ts.take i)) e.p s)]) (fun zz => zz ≤ (addTo (waysF bits (ts.take i)) e.p s).length) (fun zz => (addTo (waysF bits (ts.take i)) e.p s).length - zz) 0 (Nat.zero_le _) (Sub.cons rfl (Sub.cons (look_eq rfl (by simp)) (Sub.cons rfl (Sub.cons rfl (Sub.cons rfl (Sub.cons rfl (Sub.cons rfl (Sub.cons rfl (Sub.nil _))))))))) (fun w hw => Keep.mem hw) ?_
        rintro k hI
        refine cw_seq ?_
        refine cw_seq ?_
        refine cw_region ?_
        refine sq_r (ry_move rfl) ?_
        refine sq_r (ry_move rfl) ?_
        refine sq_r (ry_lenH rfl) ?_
        refine sq_r (ry_int rfl rfl rfl) ?_
        refine sq_nil ?_
        refine ex_then ?_
        refine cw_cond rfl (fun h3 => ?_) (fun h3 => ?_)
        · try simp only [Bool.and_eq_true, Bool.or_eq_true, Bool.and_eq_false_iff, Bool.or_eq_false_iff, Bool.not_eq_true', Bool.not_eq_false', decide_eq_true_eq, decide_eq_false_iff_not, Bool.not_eq_true, Bool.not_eq_false] at h3
          refine cw_skip ?_
          refine ex_then ?_
          refine cw_seq ?_
          refine cw_block ?_
          refine cw_quiet (by kernel_rfl) (by kernel_rfl) ?_
          refine qt_r (ry_move rfl) ?_
          refine qt_r (ry_move rfl) ?_
          refine qt_gf rfl rfl rfl (fun hg => (Ry.yl (ry_move rfl))) ?_
          refine qt_gf rfl rfl rfl (fun hg => (Ry.yl (ry_move rfl))) ?_
          refine qt_gf rfl rfl rfl (fun hg => (Ry.yl (ry_idxH (ev_c hg rfl) (ev_c hg rfl) k rfl (by simp only [Bool.and_eq_true, Bool.or_eq_true, Bool.and_eq_false_iff, Bool.or_eq_false_iff, Bool.not_eq_true', Bool.not_eq_false', decide_eq_true_eq, decide_eq_false_iff_not, Bool.not_eq_true, Bool.not_eq_false] at hg; omega)))) ?_
          refine qt_gf rfl rfl rfl (fun hg => (Ry.yl (ry_elemH (ev_c hg rfl) k (get_getD (xs := (addTo (waysF bits (ts.take i)) e.p s)) (i := k) (d := root) (by simp only [Bool.and_eq_true, Bool.or_eq_true, Bool.and_eq_false_iff, Bool.or_eq_false_iff, Bool.not_eq_true', Bool.not_eq_false', decide_eq_true_eq, decide_eq_false_iff_not, Bool.not_eq_true, Bool.not_eq_false] at hg; omega)) rfl))) ?_
          refine qt_gf rfl rfl rfl (fun hg => (Ry.yl (ry_whole rfl))) ?_
          refine qt_gf rfl rfl rfl (fun hg => (Ry.yl (ry_eq (ev_c hg rfl) (ev_c hg rfl)))) ?_
          refine qt_r (ry_or rfl rfl rfl) ?_
          refine qt_r (ry_assign rfl) ?_
          refine qt_nil ?_
          refine ex_block ?_
          refine ex_then ?_
          refine cw_region ?_
          refine sq_r (ry_move rfl) ?_
          refine sq_r (ry_add rfl rfl (by omega)) ?_
          refine sq_r (ry_assign rfl) ?_
          refine sq_nil ?_
          exact ex_again (x := (k)) (k + 1) (by first | omega | (simp only []; omega)) (by first | omega | (simp only []; omega)) (Sub.cons rfl (Sub.cons (look_eq rfl (by rw [take_snoc (get_getD (d := root) (show k < _ by omega))]; simp [eq_comm])) (Sub.cons rfl (Sub.cons rfl (Sub.cons rfl (Sub.cons rfl (Sub.cons rfl (Sub.cons rfl (Sub.nil _))))))))) (fun w hw => Keep.mem hw)
        · try simp only [Bool.and_eq_true, Bool.or_eq_true, Bool.and_eq_false_iff, Bool.or_eq_false_iff, Bool.not_eq_true', Bool.not_eq_false', decide_eq_true_eq, decide_eq_false_iff_not, Bool.not_eq_true, Bool.not_eq_false] at h3
          refine cw_exit ?_
          refine ex_pass_exit ?_
          refine ex_pass_exit ?_
          refine ex_block_hit ?_
          refine ex_then ?_
          refine cw_seq ?_
          refine cw_region ?_
          refine sq_r (ry_move rfl) ?_
          refine sq_r (ry_not rfl) ?_
          refine sq_nil ?_
          refine ex_then ?_
          refine cw_cond rfl (fun h4 => ?_) (fun h4 => ?_)
          · try simp only [Bool.and_eq_true, Bool.or_eq_true, Bool.and_eq_false_iff, Bool.or_eq_false_iff, Bool.not_eq_true', Bool.not_eq_false', decide_eq_true_eq, decide_eq_false_iff_not, Bool.not_eq_true, Bool.not_eq_false] at h4
            rw [List.take_of_length_le (by omega)] at h4
            refine cw_region ?_
            refine sq_r (ry_move rfl) ?_
            refine sq_r (ry_whole rfl) ?_
            refine sq_buildSlice (enc := wcells) (vals := [_]) [(wayAt e.p.key (s + 1))] rfl rfl rfl (by decide) (by decide) fun b67 => ?_
            refine sq_append (s := s2) (ys := [(wayAt e.p.key (s + 1))]) rfl rfl (by decide) (fun w hw => src_rows (s := ⟨false, b67, 0, 1, 1, none⟩) Try.underlying125 (by decide) ((inferInstance : Hd _ _ ⟨false, b67, 0, 1, 1, none⟩ wcells 17 [(wayAt e.p.key (s + 1))]).h w hw)) (by simp only [List.length_append, List.length_cons, List.length_nil]; omega) (by simp only [List.length_append, List.length_cons, List.length_nil]; omega) fun s68 hs68 hl68 => ?_
            refine sq_r (ry_assign rfl) ?_
            refine sq_nil ?_
            refine ex_block ?_
            refine ex_then ?_
            refine cw_region ?_
            refine sq_r (ry_move rfl) ?_
            refine sq_r (ry_add rfl rfl (by omega)) ?_
            refine sq_r (ry_assign rfl) ?_
            refine sq_nil ?_
            exact ex_again (x := (s, s2)) (s + 1, s68) (by simp only; omega) (by simp only; omega) (Sub.cons rfl (Sub.cons rfl (Sub.cons rfl (Sub.cons rfl (Sub.cons rfl (Sub.nil _)))))) (fun w hw => by rw [addTo_succ, addW, if_neg h4]; exact Keep.mem hw)
          · try simp only [Bool.and_eq_true, Bool.or_eq_true, Bool.and_eq_false_iff, Bool.or_eq_false_iff, Bool.not_eq_true', Bool.not_eq_false', decide_eq_true_eq, decide_eq_false_iff_not, Bool.not_eq_true, Bool.not_eq_false] at h4
            rw [List.take_of_length_le (by omega)] at h4
            refine cw_skip ?_
            refine ex_block ?_
            refine ex_then ?_
            refine cw_region ?_
            refine sq_r (ry_move rfl) ?_
            refine sq_r (ry_add rfl rfl (by omega)) ?_
            refine sq_r (ry_assign rfl) ?_
            refine sq_nil ?_
            exact ex_again (x := (s, s2)) (s + 1, s2) (by simp only; omega) (by simp only; omega) (Sub.cons rfl (Sub.cons rfl (Sub.cons rfl (Sub.cons rfl (Sub.cons rfl (Sub.nil _)))))) (fun w hw => by rw [addTo_succ, addW, if_pos h4]; exact Keep.mem hw)
      · try simp only [Bool.and_eq_true, Bool.or_eq_true, Bool.and_eq_false_iff, Bool.or_eq_false_iff, Bool.not_eq_true', Bool.not_eq_false', decide_eq_true_eq, decide_eq_false_iff_not, Bool.not_eq_true, Bool.not_eq_false] at h2
        obtain rfl : s = lastN e.p := by omega
        refine cw_exit ?_
        refine ex_pass_exit ?_
        refine ex_pass_exit ?_
        refine ex_block_hit ?_
        refine ex_block ?_
        refine ex_then ?_
        refine cw_region ?_
        refine sq_r (ry_move rfl) ?_
        refine sq_r (ry_add rfl rfl (by omega)) ?_
        refine sq_r (ry_assign rfl) ?_
        refine sq_nil ?_
        exact ex_again (x := (i, s1)) (i + 1, s2) (by simp only; omega) (by simp only; omega) (Sub.cons rfl (Sub.cons rfl (Sub.cons rfl (Sub.cons rfl (Sub.nil _))))) (fun w hw => by rw [ways_take he, addWs, if_pos h1]; exact Keep.mem hw)
  · try simp only [Bool.and_eq_true, Bool.or_eq_true, Bool.and_eq_false_iff, Bool.or_eq_false_iff, Bool.not_eq_true', Bool.not_eq_false', decide_eq_true_eq, decide_eq_false_iff_not, Bool.not_eq_true, Bool.not_eq_false] at h0
    refine cw_exit ?_
    refine ex_pass_exit ?_
    refine ex_pass_exit ?_
    refine ex_block_hit ?_
    refine ex_then ?_
    refine cw_seq ?_
    refine cw_region ?_
    refine sq_r (ry_move rfl) ?_
    refine sq_r (ry_assign rfl) ?_
    refine sq_nil ?_
    refine ex_then ?_
    refine cw_ret ?_
    refine ex_ret (.inl rfl) (res_1 rfl (rv_tmp rfl)) (fun w1 hw => ?_)
    exact ⟨s1, rfl, trivial, by rw [show ts = ts.take i by rw [List.take_of_length_le (by omega)]]; exact Keep.mem hw⟩
instance rways_i {w0 : World} {L : List Ent} {t : Sv} {ts : List Rt} {bits : Int} [ht : HdE w0 L rcells 19 t ts] : FnC Try.prog 82 w0 L [t.val, .int .i64 bits] (Sv) (fun zz => zz.val) (fun zz => own wcells 17 zz (waysF bits ts) :: L) (fun zz => True) ((∀ r ∈ ts, pmay r.p = true) ∧ ts.length ≤ 256) := ⟨fun hp w hw => (rways_c w t ts bits (ht.h w hw) hp).mono fun e w' ⟨x, h1, h2, h3⟩ => ⟨x, h1, h2, hw.call h3⟩⟩

end Go.Proofs.Ytembaconocgmlaa
