/- The law of both: walked. -/
import Derived.Test.YtldkgicmfbofiaaMr
import Derived.Test.YtldkgicmfbofiaaMv

set_option linter.unusedSimpArgs false
set_option linter.unusedVariables false
namespace Go.Proofs.Ytldkgicmfbofiaa
open Go.Eng Go.Kb
set_option maxRecDepth 20000 in
theorem deltaBoth_c (w : World) (t : Sv) (ts : List Rt) (u : Sv) (us : List Rt) (v : Sv) (vs : List Rt) (ht : Lies rcells 19 (hp w) t ts) (hu : Lies rcells 19 (hp w) u us) (hv : Lies rcells 19 (hp w) v vs) : Calls Try.prog 9 #[t.val, u.val, v.val] w fun e w' => e = .returned (.bool true) ∧ Mem w [] w' := by
 have ght : Gv w t rcells 19 ts := ⟨ht⟩
 have ghu : Gv w u rcells 19 us := ⟨hu⟩
 have ghv : Gv w v rcells 19 vs := ⟨hv⟩
 refine calls_of (args := [_, _, _]) Try.func9 rfl Try.ntmps9 rfl ?_
 change Cw _ _ _ _ _ [(0, t.val), (1, u.val), (2, v.val)] []
 refine cw_seq ?_
 refine cw_region ?_
 refine sq_r (ry_assign rfl) ?_
 refine sq_nil ?_
 refine ex_then ?_
 refine cw_seq ?_
 refine cw_seq ?_
 refine cw_region ?_
 refine sq_y (yl_callC rfl trivial) ?_
 refine sq_r (ry_not rfl) ?_
 refine sq_nil ?_
 refine ex_then ?_
 refine cw_cond rfl (fun h0 => ?_) (fun h0 => ?_)
 ·
  exfalso; simp at h0
 ·
  try simp only [bz0, bz1, bz2, bz3, bz4, bz5, bz6, bz7, bz8, bz9] at h0
  refine cw_skip ?_
  refine ex_then ?_
  refine cw_seq ?_
  refine cw_seq ?_
  refine cw_region ?_
  refine sq_r (ry_move rfl) ?_
  refine sq_r (ry_lenH rfl) ?_
  refine sq_r (ry_int rfl rfl rfl) ?_
  refine sq_r (ry_move rfl) ?_
  refine sq_gf rfl rfl rfl (fun hg => (Ry.yl (ry_move rfl))) ?_
  refine sq_gf rfl rfl rfl (fun hg => (Ry.yl (ry_lenH (ev_c hg rfl)))) ?_
  refine sq_gf rfl rfl rfl (fun hg => (Ry.yl (ry_int (ev_c hg rfl) rfl rfl))) ?_
  refine sq_r (ry_or rfl rfl rfl) ?_
  refine sq_r (ry_move rfl) ?_
  refine sq_gf rfl rfl rfl (fun hg => (Ry.yl (ry_move rfl))) ?_
  refine sq_gf rfl rfl rfl (fun hg => (Ry.yl (ry_lenH (ev_c hg rfl)))) ?_
  refine sq_gf rfl rfl rfl (fun hg => (Ry.yl (ry_int (ev_c hg rfl) rfl rfl))) ?_
  refine sq_r (ry_or rfl rfl rfl) ?_
  refine sq_r (ry_move rfl) ?_
  refine sq_gf rfl rfl rfl (fun hg => (Ry.yl (ry_move rfl))) ?_
  refine sq_gf rfl rfl rfl (fun hg => yl_callC (evl_cons (ev_c hg rfl) evl_nil) trivial) ?_
  refine sq_gf rfl rfl rfl (fun hg => (Ry.yl (ry_not (ev_c hg rfl)))) ?_
  refine sq_r (ry_or rfl rfl rfl) ?_
  refine sq_r (ry_move rfl) ?_
  refine sq_gf rfl rfl rfl (fun hg => (Ry.yl (ry_move rfl))) ?_
  refine sq_gf rfl rfl rfl (fun hg => yl_callC (evl_cons (ev_c hg rfl) evl_nil) trivial) ?_
  refine sq_gf rfl rfl rfl (fun hg => (Ry.yl (ry_not (ev_c hg rfl)))) ?_
  refine sq_r (ry_or rfl rfl rfl) ?_
  refine sq_r (ry_move rfl) ?_
  refine sq_gf rfl rfl rfl (fun hg => (Ry.yl (ry_move rfl))) ?_
  refine sq_gf rfl rfl rfl (fun hg => yl_callC (evl_cons (ev_c hg rfl) evl_nil) trivial) ?_
  refine sq_gf rfl rfl rfl (fun hg => (Ry.yl (ry_not (ev_c hg rfl)))) ?_
  refine sq_r (ry_or rfl rfl rfl) ?_
  refine sq_nil ?_
  refine ex_then ?_
  refine cw_cond rfl (fun h1 => ?_) (fun h1 => ?_)
  ·
   try simp only [bz0, bz1, bz2, bz3, bz4, bz5, bz6, bz7, bz8, bz9] at h1
   refine cw_seq ?_
   refine cw_region ?_
   refine sq_r (ry_assign rfl) ?_
   refine sq_nil ?_
   refine ex_then ?_
   refine cw_ret ?_
   refine ex_pass_ret ?_
   refine ex_ret (.inl rfl) (res_1 rfl (rv_tmp rfl)) (fun w1 hw => ?_)
   exact ⟨congrArg (fun b => Ending.returned (Value.bool b)) (rfl), Keep.mem hw⟩
  ·
   try simp only [bz0, bz1, bz2, bz3, bz4, bz5, bz6, bz7, bz8, bz9] at h1
   obtain ⟨⟨⟨⟨⟨g1, g2⟩, g3⟩, g4⟩, g5⟩, g6⟩ := h1
   have hr1 : tright ts = true := by simpa using g4
   have hr2 : tright us = true := by simpa using g5
   have hr3 : tright vs = true := by simpa using g6
   have l1 := tr_len hr1
   have l2 := tr_len hr2
   have l3 := tr_len hr3
   obtain ⟨a1, a2, a3⟩ := both_ok hr1 hr2 hr1 (by omega)
   obtain ⟨a4, a5⟩ := both_left hr1 hr2
   obtain ⟨b1, b2, b3⟩ := both_ok hr1 hr1 hr2 (by omega)
   obtain ⟨b4, b5⟩ := both_right hr1 hr2
   obtain ⟨c1, c2, c3⟩ := both_ok hr1 hr2 hr2 (by omega)
   obtain ⟨c4, c5⟩ := both_one hr1 hr2
   obtain ⟨d1, d2, d3⟩ := both_ok hr1 hr2 hr3 (by omega)
   have dl := both_len (right_ord hr1) (right_ord hr2) (right_ord hr3)
   have dr : tright (bothO ts us vs) = true := ord_right both_ord (by omega)
   have z0 : ([] : List Pfx).length = 0 := rfl
   have dt : (bothT ts us vs).length ≤ 300 := by
    have h3 := torn_len (t := ts) (a := us) (b := vs) (ys := tsortF (ts ++ us ++ vs))
    have h4 := tsort_len (ts ++ us ++ vs)
    simp only [List.length_append] at h4
    unfold bothT; omega
   refine cw_skip ?_
   refine ex_then ?_
   refine cw_seq ?_
   refine cw_region ?_
   refine sq_r (ry_move rfl) ?_
   refine sq_r (ry_move rfl) ?_
   refine sq_r (ry_move rfl) ?_
   refine sq_callC rfl trivial fun x57 hp57 => ?_
   rw [a1, a2, a3, a4, a5]
   refine sq_r (ry_move rfl) ?_
   refine sq_r (ry_extract (v := x57.1.val) rfl rfl) ?_
   refine sq_r (ry_extract (v := x57.2.val) rfl rfl) ?_
   refine sq_r (ry_extract (v := .int .i64 0) rfl rfl) ?_
   refine sq_r (ry_assign rfl) ?_
   refine sq_r (ry_assign rfl) ?_
   refine sq_r (ry_assign rfl) ?_
   refine sq_nil ?_
   refine ex_then ?_
   refine cw_seq ?_
   refine cw_region ?_
   refine sq_r (ry_move rfl) ?_
   refine sq_r (ry_move rfl) ?_
   refine sq_r (ry_move rfl) ?_
   refine sq_callC rfl trivial fun x65 hp65 => ?_
   rw [b1, b2, b3, b4, b5]
   refine sq_r (ry_move rfl) ?_
   refine sq_r (ry_extract (v := x65.1.val) rfl rfl) ?_
   refine sq_r (ry_extract (v := x65.2.val) rfl rfl) ?_
   refine sq_r (ry_extract (v := .int .i64 0) rfl rfl) ?_
   refine sq_r (ry_assign rfl) ?_
   refine sq_r (ry_assign rfl) ?_
   refine sq_r (ry_assign rfl) ?_
   refine sq_nil ?_
   refine ex_then ?_
   refine cw_seq ?_
   refine cw_region ?_
   refine sq_r (ry_move rfl) ?_
   refine sq_r (ry_move rfl) ?_
   refine sq_r (ry_move rfl) ?_
   refine sq_callC rfl trivial fun x73 hp73 => ?_
   rw [c1, c2, c3, c4, c5]
   refine sq_r (ry_move rfl) ?_
   refine sq_r (ry_extract (v := x73.1.val) rfl rfl) ?_
   refine sq_r (ry_extract (v := x73.2.val) rfl rfl) ?_
   refine sq_r (ry_extract (v := .int .i64 0) rfl rfl) ?_
   refine sq_r (ry_assign rfl) ?_
   refine sq_r (ry_assign rfl) ?_
   refine sq_r (ry_assign rfl) ?_
   refine sq_nil ?_
   refine ex_then ?_
   refine cw_seq ?_
   refine cw_seq ?_
   refine cw_region ?_
   refine sq_r (ry_move rfl) ?_
   refine sq_r (ry_int rfl rfl rfl) ?_
   refine sq_r (ry_move rfl) ?_
   refine sq_gf rfl rfl rfl (fun hg => (Ry.yl (ry_move rfl))) ?_
   refine sq_gf rfl rfl rfl (fun hg => (Ry.yl (ry_int (ev_c hg rfl) rfl rfl))) ?_
   refine sq_r (ry_or rfl rfl rfl) ?_
   refine sq_r (ry_move rfl) ?_
   refine sq_gf rfl rfl rfl (fun hg => (Ry.yl (ry_move rfl))) ?_
   refine sq_gf rfl rfl rfl (fun hg => (Ry.yl (ry_int (ev_c hg rfl) rfl rfl))) ?_
   refine sq_r (ry_or rfl rfl rfl) ?_
   refine sq_r (ry_move rfl) ?_
   refine sq_gf rfl rfl rfl (fun hg => (Ry.yl (ry_move rfl))) ?_
   refine sq_gf rfl rfl rfl (fun hg => (Ry.yl (ry_move rfl))) ?_
   refine sq_gf rfl rfl rfl (fun hg => yl_callC (evl_cons (ev_c hg rfl) (evl_cons (ev_c hg rfl) evl_nil)) (by simp only [bz0, bz1, bz2, bz3, bz4, bz5, bz6, bz7, bz8, bz9] at hg; omega)) ?_
   refine sq_gf rfl rfl rfl (fun hg => (Ry.yl (ry_not (ev_c hg rfl)))) ?_
   refine sq_r (ry_or rfl rfl rfl) ?_
   refine sq_r (ry_move rfl) ?_
   refine sq_gf rfl rfl rfl (fun hg => (Ry.yl (ry_move rfl))) ?_
   refine sq_gf rfl rfl rfl (fun hg => (Ry.yl (ry_move rfl))) ?_
   refine sq_gf rfl rfl rfl (fun hg => yl_callC (evl_cons (ev_c hg rfl) (evl_cons (ev_c hg rfl) evl_nil)) (by simp only [bz0, bz1, bz2, bz3, bz4, bz5, bz6, bz7, bz8, bz9] at hg; omega)) ?_
   refine sq_gf rfl rfl rfl (fun hg => (Ry.yl (ry_not (ev_c hg rfl)))) ?_
   refine sq_r (ry_or rfl rfl rfl) ?_
   refine sq_r (ry_move rfl) ?_
   refine sq_gf rfl rfl rfl (fun hg => (Ry.yl (ry_move rfl))) ?_
   refine sq_gf rfl rfl rfl (fun hg => (Ry.yl (ry_move rfl))) ?_
   refine sq_gf rfl rfl rfl (fun hg => yl_callC (evl_cons (ev_c hg rfl) (evl_cons (ev_c hg rfl) evl_nil)) (by simp only [bz0, bz1, bz2, bz3, bz4, bz5, bz6, bz7, bz8, bz9] at hg; omega)) ?_
   refine sq_gf rfl rfl rfl (fun hg => (Ry.yl (ry_not (ev_c hg rfl)))) ?_
   refine sq_r (ry_or rfl rfl rfl) ?_
   refine sq_r (ry_move rfl) ?_
   refine sq_gf rfl rfl rfl (fun hg => (Ry.yl (ry_move rfl))) ?_
   refine sq_gf rfl rfl rfl (fun hg => (Ry.yl (ry_lenH (ev_c hg rfl)))) ?_
   refine sq_gf rfl rfl rfl (fun hg => (Ry.yl (ry_move rfl))) ?_
   refine sq_gf rfl rfl rfl (fun hg => (Ry.yl (ry_lenH (ev_c hg rfl)))) ?_
   refine sq_gf rfl rfl rfl (fun hg => (Ry.yl (ry_add (ev_c hg rfl) (ev_c hg rfl) (by simp only [bz0, bz1, bz2, bz3, bz4, bz5, bz6, bz7, bz8, bz9] at hg; omega)))) ?_
   refine sq_gf rfl rfl rfl (fun hg => (Ry.yl (ry_move rfl))) ?_
   refine sq_gf rfl rfl rfl (fun hg => (Ry.yl (ry_lenH (ev_c hg rfl)))) ?_
   refine sq_gf rfl rfl rfl (fun hg => (Ry.yl (ry_add (ev_c hg rfl) (ev_c hg rfl) (by simp only [bz0, bz1, bz2, bz3, bz4, bz5, bz6, bz7, bz8, bz9] at hg; omega)))) ?_
   refine sq_gf rfl rfl rfl (fun hg => (Ry.yl (ry_int (ev_c hg rfl) rfl rfl))) ?_
   refine sq_r (ry_or rfl rfl rfl) ?_
   refine sq_nil ?_
   refine ex_then ?_
   refine cw_cond rfl (fun h2 => ?_) (fun h2 => ?_)
   ·
    exfalso; simp at h2
   ·
    try simp only [bz0, bz1, bz2, bz3, bz4, bz5, bz6, bz7, bz8, bz9] at h2
    refine cw_skip ?_
    refine ex_then ?_
    refine cw_seq ?_
    refine cw_region ?_
    refine sq_r (ry_move rfl) ?_
    refine sq_r (ry_move rfl) ?_
    refine sq_r (ry_move rfl) ?_
    refine sq_callC rfl trivial fun x120 hp120 => ?_
    rw [d1, d2, d3]
    refine sq_r (ry_move rfl) ?_
    refine sq_r (ry_extract (v := x120.1.val) rfl rfl) ?_
    refine sq_r (ry_extract (v := x120.2.val) rfl rfl) ?_
    refine sq_r (ry_extract (v := .int .i64 0) rfl rfl) ?_
    refine sq_r (ry_assign rfl) ?_
    refine sq_r (ry_assign rfl) ?_
    refine sq_r (ry_assign rfl) ?_
    refine sq_nil ?_
    refine ex_then ?_
    refine cw_seq ?_
    refine cw_seq ?_
    refine cw_region ?_
    refine sq_r (ry_move rfl) ?_
    refine sq_r (ry_int rfl rfl rfl) ?_
    refine sq_r (ry_move rfl) ?_
    refine sq_gf rfl rfl rfl (fun hg => (Ry.yl (ry_move rfl))) ?_
    refine sq_gf rfl rfl rfl (fun hg => yl_callC (evl_cons (ev_c hg rfl) evl_nil) trivial) ?_
    refine sq_gf rfl rfl rfl (fun hg => (Ry.yl (ry_not (ev_c hg rfl)))) ?_
    refine sq_r (ry_or rfl rfl rfl) ?_
    refine sq_nil ?_
    refine ex_then ?_
    refine cw_cond rfl (fun h3 => ?_) (fun h3 => ?_)
    ·
     try simp only [bz0, bz1, bz2, bz3, bz4, bz5, bz6, bz7, bz8, bz9] at h3
     exfalso; simp [dr] at h3
    ·
     try simp only [bz0, bz1, bz2, bz3, bz4, bz5, bz6, bz7, bz8, bz9] at h3
     refine cw_skip ?_
     refine ex_then ?_
     refine cw_seq ?_
     refine cw_seq ?_
     refine cw_region ?_
     refine sq_r (ry_assign rfl) ?_
     refine sq_nil ?_
     refine ex_then ?_
     refine cw_block ?_
     refine cw_loop (X := Nat) (fun zz => [(19, .int .i64 (zz : Nat)), (0, t.val), (1, u.val), (2, v.val), (16, x120.1.val), (17, x120.2.val)]) (fun zz => [own pcells 18 x120.2 (bothT ts us vs), own rcells 19 x120.1 (bothO ts us vs)]) (fun zz => zz ≤ (bothT ts us vs).length) (fun zz => (bothT ts us vs).length - zz) 0 (Nat.zero_le _) (Sub.cons rfl (Sub.cons rfl (Sub.cons rfl (Sub.cons rfl (Sub.cons rfl (Sub.cons rfl (Sub.nil _))))))) (fun w hw => Keep.mem hw) ?_
     rintro i hI
     refine cw_seq ?_
     refine cw_seq ?_
     refine cw_region ?_
     refine sq_r (ry_move rfl) ?_
     refine sq_r (ry_move rfl) ?_
     refine sq_r (ry_lenH rfl) ?_
     refine sq_r (ry_int rfl rfl rfl) ?_
     refine sq_nil ?_
     refine ex_then ?_
     refine cw_cond rfl (fun h4 => ?_) (fun h4 => ?_)
     ·
      try simp only [bz0, bz1, bz2, bz3, bz4, bz5, bz6, bz7, bz8, bz9] at h4
      obtain ⟨p, hp⟩ := get_some (xs := (bothT ts us vs)) (i := i) (by omega)
      obtain ⟨m1, m2, m3, m4⟩ := both_torn hr1 hr2 hr3 (List.mem_of_getElem? hp)
      refine cw_skip ?_
      refine ex_then ?_
      refine cw_seq ?_
      refine cw_block ?_
      refine cw_seq ?_
      refine cw_quiet (by kernel_rfl) (by kernel_rfl) ?_
      refine qt_r (ry_move rfl) ?_
      refine qt_r (ry_move rfl) ?_
      refine qt_r (ry_move rfl) ?_
      refine qt_r (ry_idxH rfl rfl i rfl (by omega)) ?_
      refine qt_r (ry_elemH rfl i hp rfl) ?_
      refine qt_y (yl_callC rfl trivial) ?_
      refine qt_r (ry_move rfl) ?_
      refine qt_r (ry_move rfl) ?_
      refine qt_r (ry_move rfl) ?_
      refine qt_r (ry_idxH rfl rfl i rfl (by omega)) ?_
      refine qt_r (ry_elemH rfl i hp rfl) ?_
      refine qt_y (yl_callC rfl trivial) ?_
      refine qt_r (ry_move rfl) ?_
      refine qt_r (ry_move rfl) ?_
      refine qt_r (ry_move rfl) ?_
      refine qt_r (ry_idxH rfl rfl i rfl (by omega)) ?_
      refine qt_r (ry_elemH rfl i hp rfl) ?_
      refine qt_y (yl_callC rfl trivial) ?_
      refine qt_r (ry_assign rfl) ?_
      refine qt_r (ry_assign rfl) ?_
      refine qt_r (ry_assign rfl) ?_
      refine qt_nil ?_
      refine ex_then ?_
      refine cw_seq ?_
      refine cw_region ?_
      refine sq_r (ry_move rfl) ?_
      refine sq_r (ry_move rfl) ?_
      refine sq_r (ry_int rfl rfl rfl) ?_
      refine sq_r (ry_move rfl) ?_
      refine sq_gf rfl rfl rfl (fun hg => (Ry.yl (ry_move rfl))) ?_
      refine sq_gf rfl rfl rfl (fun hg => (Ry.yl (ry_move rfl))) ?_
      refine sq_gf rfl rfl rfl (fun hg => (Ry.yl (ry_int (ev_c hg rfl) (ev_c hg rfl) rfl))) ?_
      refine sq_r (ry_or rfl rfl rfl) ?_
      refine sq_r (ry_move rfl) ?_
      refine sq_gf rfl rfl rfl (fun hg => (Ry.yl (ry_move rfl))) ?_
      refine sq_gf rfl rfl rfl (fun hg => (Ry.yl (ry_move rfl))) ?_
      refine sq_gf rfl rfl rfl (fun hg => (Ry.yl (ry_int (ev_c hg rfl) (ev_c hg rfl) rfl))) ?_
      refine sq_r (ry_or rfl rfl rfl) ?_
      refine sq_r (ry_move rfl) ?_
      refine sq_gf rfl rfl rfl (fun hg => (Ry.yl (ry_move rfl))) ?_
      refine sq_gf rfl rfl rfl (fun hg => (Ry.yl (ry_move rfl))) ?_
      refine sq_gf rfl rfl rfl (fun hg => (Ry.yl (ry_move rfl))) ?_
      refine sq_gf rfl rfl rfl (fun hg => (Ry.yl (ry_idxH (ev_c hg rfl) (ev_c hg rfl) i rfl (by simp only [bz0, bz1, bz2, bz3, bz4, bz5, bz6, bz7, bz8, bz9] at hg; omega)))) ?_
      refine sq_gf rfl rfl rfl (fun hg => (Ry.yl (ry_elemH (ev_c hg rfl) i hp rfl))) ?_
      refine sq_gf rfl rfl rfl (fun hg => yl_callC (evl_cons (ev_c hg rfl) (evl_cons (ev_c hg rfl) evl_nil)) trivial) ?_
      refine sq_gf rfl rfl rfl (fun hg => (Ry.yl (ry_move rfl))) ?_
      refine sq_gf rfl rfl rfl (fun hg => (Ry.yl (ry_int (ev_c hg rfl) (ev_c hg rfl) rfl))) ?_
      refine sq_r (ry_or rfl rfl rfl) ?_
      refine sq_nil ?_
      refine ex_then ?_
      refine cw_cond rfl (fun h5 => ?_) (fun h5 => ?_)
      ·
       try simp only [bz0, bz1, bz2, bz3, bz4, bz5, bz6, bz7, bz8, bz9] at h5
       exfalso
       simp only [hasI_inj, m4] at h5
       rcases h5 with ((h | h) | h) | h
       ·
        exact m1 h
       ·
        exact m2 h
       ·
        exact m3 h
       ·
        simp at h
      ·
       try simp only [bz0, bz1, bz2, bz3, bz4, bz5, bz6, bz7, bz8, bz9] at h5
       refine cw_skip ?_
       refine ex_block ?_
       refine ex_then ?_
       refine cw_region ?_
       refine sq_r (ry_move rfl) ?_
       refine sq_r (ry_add rfl rfl (by omega)) ?_
       refine sq_r (ry_assign rfl) ?_
       refine sq_nil ?_
       exact ex_again (x := (i)) (i + 1) (by first | omega | (simp only []; omega)) (by first | omega | (simp only []; omega)) (Sub.cons rfl (Sub.cons rfl (Sub.cons rfl (Sub.cons rfl (Sub.cons rfl (Sub.cons rfl (Sub.nil _))))))) (fun w hw => Keep.mem hw)
     ·
      try simp only [bz0, bz1, bz2, bz3, bz4, bz5, bz6, bz7, bz8, bz9] at h4
      refine cw_exit ?_
      refine ex_pass_exit ?_
      refine ex_pass_exit ?_
      refine ex_block_hit ?_
      refine ex_then ?_
      refine cw_seq ?_
      refine cw_region ?_
      refine sq_r (ry_assign rfl) ?_
      refine sq_nil ?_
      refine ex_then ?_
      refine cw_ret ?_
      refine ex_ret (.inl rfl) (res_1 rfl (rv_tmp rfl)) (fun w1 hw => ?_)
      exact ⟨congrArg (fun b => Ending.returned (Value.bool b)) (rfl), Keep.mem hw⟩

end Go.Proofs.Ytldkgicmfbofiaa

