/- The law of chains: walked. -/
import Derived.Test.YtldkgicmfbofiaaMr
import Derived.Test.YtldkgicmfbofiaaMv

set_option linter.unusedSimpArgs false
set_option linter.unusedVariables false
namespace Go.Proofs.Ytldkgicmfbofiaa
open Go.Eng Go.Kb
set_option maxRecDepth 20000 in
theorem deltaChain_c (w : World) (t : Sv) (ts : List Rt) (u : Sv) (us : List Rt) (v : Sv) (vs : List Rt) (ht : Lies rcells 19 (hp w) t ts) (hu : Lies rcells 19 (hp w) u us) (hv : Lies rcells 19 (hp w) v vs) : Calls Try.prog 10 #[t.val, u.val, v.val] w fun e w' => e = .returned (.bool true) ∧ Mem w [] w' := by
 have ght : Gv w t rcells 19 ts := ⟨ht⟩
 have ghu : Gv w u rcells 19 us := ⟨hu⟩
 have ghv : Gv w v rcells 19 vs := ⟨hv⟩
 refine calls_of (args := [_, _, _]) Try.func10 rfl Try.ntmps10 rfl ?_
 change Cw _ _ _ _ _ [(0, t.val), (1, u.val), (2, v.val)] []
 refine cw_seq ?_
 refine cw_region ?_
 refine sq_r (ry_assign rfl) ?_
 refine sq_nil ?_
 refine ex_then ?_
 refine cw_seq ?_
 refine cw_seq ?_
 refine cw_region ?_
 refine sq_y (yl_callC rfl trivial) ?_
 refine sq_r (ry_not rfl) ?_
 refine sq_nil ?_
 refine ex_then ?_
 refine cw_cond rfl (fun h0 => ?_) (fun h0 => ?_)
 ·
  exfalso; simp at h0
 ·
  try simp only [bz0, bz1, bz2, bz3, bz4, bz5, bz6, bz7, bz8, bz9] at h0
  refine cw_skip ?_
  refine ex_then ?_
  refine cw_seq ?_
  refine cw_seq ?_
  refine cw_region ?_
  refine sq_r (ry_move rfl) ?_
  refine sq_r (ry_lenH rfl) ?_
  refine sq_r (ry_int rfl rfl rfl) ?_
  refine sq_r (ry_move rfl) ?_
  refine sq_gf rfl rfl rfl (fun hg => (Ry.yl (ry_move rfl))) ?_
  refine sq_gf rfl rfl rfl (fun hg => (Ry.yl (ry_lenH (ev_c hg rfl)))) ?_
  refine sq_gf rfl rfl rfl (fun hg => (Ry.yl (ry_int (ev_c hg rfl) rfl rfl))) ?_
  refine sq_r (ry_or rfl rfl rfl) ?_
  refine sq_r (ry_move rfl) ?_
  refine sq_gf rfl rfl rfl (fun hg => (Ry.yl (ry_move rfl))) ?_
  refine sq_gf rfl rfl rfl (fun hg => (Ry.yl (ry_lenH (ev_c hg rfl)))) ?_
  refine sq_gf rfl rfl rfl (fun hg => (Ry.yl (ry_int (ev_c hg rfl) rfl rfl))) ?_
  refine sq_r (ry_or rfl rfl rfl) ?_
  refine sq_r (ry_move rfl) ?_
  refine sq_gf rfl rfl rfl (fun hg => (Ry.yl (ry_move rfl))) ?_
  refine sq_gf rfl rfl rfl (fun hg => yl_callC (evl_cons (ev_c hg rfl) evl_nil) trivial) ?_
  refine sq_gf rfl rfl rfl (fun hg => (Ry.yl (ry_not (ev_c hg rfl)))) ?_
  refine sq_r (ry_or rfl rfl rfl) ?_
  refine sq_r (ry_move rfl) ?_
  refine sq_gf rfl rfl rfl (fun hg => (Ry.yl (ry_move rfl))) ?_
  refine sq_gf rfl rfl rfl (fun hg => yl_callC (evl_cons (ev_c hg rfl) evl_nil) trivial) ?_
  refine sq_gf rfl rfl rfl (fun hg => (Ry.yl (ry_not (ev_c hg rfl)))) ?_
  refine sq_r (ry_or rfl rfl rfl) ?_
  refine sq_r (ry_move rfl) ?_
  refine sq_gf rfl rfl rfl (fun hg => (Ry.yl (ry_move rfl))) ?_
  refine sq_gf rfl rfl rfl (fun hg => yl_callC (evl_cons (ev_c hg rfl) evl_nil) trivial) ?_
  refine sq_gf rfl rfl rfl (fun hg => (Ry.yl (ry_not (ev_c hg rfl)))) ?_
  refine sq_r (ry_or rfl rfl rfl) ?_
  refine sq_nil ?_
  refine ex_then ?_
  refine cw_cond rfl (fun h1 => ?_) (fun h1 => ?_)
  ·
   try simp only [bz0, bz1, bz2, bz3, bz4, bz5, bz6, bz7, bz8, bz9] at h1
   refine cw_seq ?_
   refine cw_region ?_
   refine sq_r (ry_assign rfl) ?_
   refine sq_nil ?_
   refine ex_then ?_
   refine cw_ret ?_
   refine ex_pass_ret ?_
   refine ex_ret (.inl rfl) (res_1 rfl (rv_tmp rfl)) (fun w1 hw => ?_)
   exact ⟨congrArg (fun b => Ending.returned (Value.bool b)) (rfl), Keep.mem hw⟩
  ·
   try simp only [bz0, bz1, bz2, bz3, bz4, bz5, bz6, bz7, bz8, bz9] at h1
   obtain ⟨⟨⟨⟨⟨g1, g2⟩, g3⟩, g4⟩, g5⟩, g6⟩ := h1
   have hr1 : tright ts = true := by simpa using g4
   have hr2 : tright us = true := by simpa using g5
   have hr3 : tright vs = true := by simpa using g6
   have l1 := tr_len hr1
   have l2 := tr_len hr2
   have l3 := tr_len hr3
   have o1 := right_ord hr1
   have o2 := right_ord hr2
   have o3 := right_ord hr3
   have e1 : difE ts us = 0 := by rw [difE, if_pos (by rw [hr1, hr2]; rfl)]
   have f1 : difL ts us = diffF ts us := by rw [difL, if_pos e1]
   have e2 : difE us vs = 0 := by rw [difE, if_pos (by rw [hr2, hr3]; rfl)]
   have f2 : difL us vs = diffF us vs := by rw [difL, if_pos e2]
   have e3 : difE ts vs = 0 := by rw [difE, if_pos (by rw [hr1, hr3]; rfl)]
   have f3 : difL ts vs = diffF ts vs := by rw [difL, if_pos e3]
   have n1 := (diff_len (t := ts) (u := us)).1
   have n2 := (diff_len (t := us) (u := vs)).1
   have n3 := (diff_len (t := ts) (u := vs)).1
   have e4 : fldE (diffF ts us ++ diffF us vs) = 0 := by rw [fldE, if_pos (mayB_iff.2 (chain_may o1 o2 o3))]
   have f4 : fldL (diffF ts us ++ diffF us vs) = chnF ts us vs := by rw [fldL, if_pos e4]; rfl
   have n4 := chain_more o1 o2 o3
   have n5 := chain_len ts us vs
   refine cw_skip ?_
   refine ex_then ?_
   refine cw_seq ?_
   refine cw_region ?_
   refine sq_r (ry_move rfl) ?_
   refine sq_r (ry_move rfl) ?_
   refine sq_callC rfl trivial fun x52 hp52 => ?_
   rw [e1, f1]
   refine sq_r (ry_move rfl) ?_
   refine sq_r (ry_extract (v := x52.val) rfl rfl) ?_
   refine sq_r (ry_extract (v := .int .i64 0) rfl rfl) ?_
   refine sq_r (ry_assign rfl) ?_
   refine sq_r (ry_assign rfl) ?_
   refine sq_nil ?_
   refine ex_then ?_
   refine cw_seq ?_
   refine cw_region ?_
   refine sq_r (ry_move rfl) ?_
   refine sq_r (ry_move rfl) ?_
   refine sq_callC rfl trivial fun x58 hp58 => ?_
   rw [e2, f2]
   refine sq_r (ry_move rfl) ?_
   refine sq_r (ry_extract (v := x58.val) rfl rfl) ?_
   refine sq_r (ry_extract (v := .int .i64 0) rfl rfl) ?_
   refine sq_r (ry_assign rfl) ?_
   refine sq_r (ry_assign rfl) ?_
   refine sq_nil ?_
   refine ex_then ?_
   refine cw_seq ?_
   refine cw_region ?_
   refine sq_r (ry_move rfl) ?_
   refine sq_r (ry_move rfl) ?_
   refine sq_callC rfl trivial fun x64 hp64 => ?_
   rw [e3, f3]
   refine sq_r (ry_move rfl) ?_
   refine sq_r (ry_extract (v := x64.val) rfl rfl) ?_
   refine sq_r (ry_extract (v := .int .i64 0) rfl rfl) ?_
   refine sq_r (ry_assign rfl) ?_
   refine sq_r (ry_assign rfl) ?_
   refine sq_nil ?_
   refine ex_then ?_
   refine cw_seq ?_
   refine cw_region ?_
   refine sq_build0 chcells fun b68 => ?_
   refine sq_r (ry_move rfl) ?_
   refine sq_append (s := ⟨false, b68, 0, 0, 0, none⟩) (ys := (diffF ts us)) rfl rfl (by decide) (fun w hw => src_rows (s := x52) Try.underlying27 (by decide) ((inferInstance : Hd _ _ x52 chcells 20 (diffF ts us)).h w hw)) (by simp only [List.length_nil]; omega) (by simp only [List.length_nil]; omega) fun s70 hs70 hl70 => ?_
   refine sq_r (ry_move rfl) ?_
   refine sq_append (s := s70) (ys := (diffF us vs)) rfl rfl (by decide) (fun w hw => src_rows (s := x58) Try.underlying27 (by decide) ((inferInstance : Hd _ _ x58 chcells 20 (diffF us vs)).h w hw)) (by simp only [List.length_append, List.length_nil]; omega) (by simp only [List.length_append, List.length_nil]; omega) fun s72 hs72 hl72 => ?_
   simp only [List.nil_append]
   refine sq_callC rfl (by simp only [List.length_append]; omega) fun x73 hp73 => ?_
   rw [e4, f4]
   refine sq_r (ry_move rfl) ?_
   refine sq_r (ry_extract (v := x73.val) rfl rfl) ?_
   refine sq_r (ry_extract (v := .int .i64 0) rfl rfl) ?_
   refine sq_r (ry_assign rfl) ?_
   refine sq_r (ry_assign rfl) ?_
   refine sq_nil ?_
   refine ex_then ?_
   refine cw_seq ?_
   refine cw_seq ?_
   refine cw_region ?_
   refine sq_r (ry_move rfl) ?_
   refine sq_r (ry_int rfl rfl rfl) ?_
   refine sq_r (ry_move rfl) ?_
   refine sq_gf rfl rfl rfl (fun hg => (Ry.yl (ry_move rfl))) ?_
   refine sq_gf rfl rfl rfl (fun hg => (Ry.yl (ry_int (ev_c hg rfl) rfl rfl))) ?_
   refine sq_r (ry_or rfl rfl rfl) ?_
   refine sq_r (ry_move rfl) ?_
   refine sq_gf rfl rfl rfl (fun hg => (Ry.yl (ry_move rfl))) ?_
   refine sq_gf rfl rfl rfl (fun hg => (Ry.yl (ry_int (ev_c hg rfl) rfl rfl))) ?_
   refine sq_r (ry_or rfl rfl rfl) ?_
   refine sq_r (ry_move rfl) ?_
   refine sq_gf rfl rfl rfl (fun hg => (Ry.yl (ry_move rfl))) ?_
   refine sq_gf rfl rfl rfl (fun hg => (Ry.yl (ry_int (ev_c hg rfl) rfl rfl))) ?_
   refine sq_r (ry_or rfl rfl rfl) ?_
   refine sq_r (ry_move rfl) ?_
   refine sq_gf rfl rfl rfl (fun hg => (Ry.yl (ry_move rfl))) ?_
   refine sq_gf rfl rfl rfl (fun hg => (Ry.yl (ry_lenH (ev_c hg rfl)))) ?_
   refine sq_gf rfl rfl rfl (fun hg => (Ry.yl (ry_move rfl))) ?_
   refine sq_gf rfl rfl rfl (fun hg => (Ry.yl (ry_lenH (ev_c hg rfl)))) ?_
   refine sq_gf rfl rfl rfl (fun hg => (Ry.yl (ry_int (ev_c hg rfl) (ev_c hg rfl) rfl))) ?_
   refine sq_r (ry_or rfl rfl rfl) ?_
   refine sq_r (ry_move rfl) ?_
   refine sq_gf rfl rfl rfl (fun hg => (Ry.yl (ry_move rfl))) ?_
   refine sq_gf rfl rfl rfl (fun hg => (Ry.yl (ry_lenH (ev_c hg rfl)))) ?_
   refine sq_gf rfl rfl rfl (fun hg => (Ry.yl (ry_move rfl))) ?_
   refine sq_gf rfl rfl rfl (fun hg => (Ry.yl (ry_lenH (ev_c hg rfl)))) ?_
   refine sq_gf rfl rfl rfl (fun hg => (Ry.yl (ry_move rfl))) ?_
   refine sq_gf rfl rfl rfl (fun hg => (Ry.yl (ry_lenH (ev_c hg rfl)))) ?_
   refine sq_gf rfl rfl rfl (fun hg => (Ry.yl (ry_add (ev_c hg rfl) (ev_c hg rfl) (by simp only [bz0, bz1, bz2, bz3, bz4, bz5, bz6, bz7, bz8, bz9] at hg; omega)))) ?_
   refine sq_gf rfl rfl rfl (fun hg => (Ry.yl (ry_int (ev_c hg rfl) (ev_c hg rfl) rfl))) ?_
   refine sq_r (ry_or rfl rfl rfl) ?_
   refine sq_nil ?_
   refine ex_then ?_
   refine cw_cond rfl (fun h2 => ?_) (fun h2 => ?_)
   ·
    try simp only [bz0, bz1, bz2, bz3, bz4, bz5, bz6, bz7, bz8, bz9] at h2
    exfalso; simp at h2; omega
   ·
    try simp only [bz0, bz1, bz2, bz3, bz4, bz5, bz6, bz7, bz8, bz9] at h2
    refine cw_skip ?_
    refine ex_then ?_
    refine cw_seq ?_
    refine cw_region ?_
    refine sq_r (ry_move rfl) ?_
    refine sq_r (ry_assign rfl) ?_
    refine sq_nil ?_
    refine ex_then ?_
    refine cw_seq ?_
    refine cw_seq ?_
    refine cw_region ?_
    refine sq_r (ry_assign rfl) ?_
    refine sq_nil ?_
    refine ex_then ?_
    refine cw_block ?_
    refine cw_loop (X := Nat × Sv × Bool × List Rt) (fun zz => [(16, .int .i64 (zz.1 : Nat)), (15, zz.2.1.val), (0, t.val), (2, v.val), (13, x73.val)]) (fun zz => [selE zz.2.2.1 (own rcells 19 zz.2.1 zz.2.2.2), own chcells 20 x73 (chnF ts us vs)]) (fun zz => zz.1 ≤ (chnF ts us vs).length ∧ Chn ts us vs zz.1 zz.2.2.2 ∧ (zz.2.2.1 = true → zz.2.1 = t ∧ zz.2.2.2 = ts)) (fun zz => (chnF ts us vs).length - zz.1) (0, t, true, ts) ⟨Nat.zero_le _, Chn.start hr1, fun _ => ⟨rfl, rfl⟩⟩ (Sub.cons rfl (Sub.cons rfl (Sub.cons rfl (Sub.cons rfl (Sub.cons rfl (Sub.nil _)))))) (fun w hw => Mem.selT (Keep.mem hw)) ?_
    rintro ⟨i, o, g, q⟩ ⟨hi1, hC, hi4⟩
    dsimp only
    simp only at hi1 hC hi4
    have hql := tr_len hC.right
    have sg : SelG g o q t ts := ⟨hi4⟩
    refine cw_seq ?_
    refine cw_seq ?_
    refine cw_region ?_
    refine sq_r (ry_move rfl) ?_
    refine sq_r (ry_move rfl) ?_
    refine sq_r (ry_lenH rfl) ?_
    refine sq_r (ry_int rfl rfl rfl) ?_
    refine sq_nil ?_
    refine ex_then ?_
    refine cw_cond rfl (fun h3 => ?_) (fun h3 => ?_)
    ·
     try simp only [bz0, bz1, bz2, bz3, bz4, bz5, bz6, bz7, bz8, bz9] at h3
     obtain ⟨c, hc⟩ := get_some (xs := (chnF ts us vs)) (i := i) (by omega)
     have hone : ((chnF ts us vs).drop i).take (i + 1 - i) = [c] := by rw [dropAt hc, show i + 1 - i = 1 by omega]; rfl
     refine cw_skip ?_
     refine ex_then ?_
     refine cw_seq ?_
     refine cw_block ?_
     refine cw_seq ?_
     refine cw_seq ?_
     refine cw_region ?_
     refine sq_r (ry_move rfl) ?_
     refine sq_r (ry_move rfl) ?_
     refine sq_r (ry_idxH rfl rfl i rfl (by omega)) ?_
     refine sq_r (ry_field rfl rfl) ?_
     refine sq_r (ry_elemcH (j := 19) rfl i hc rfl (by decide)) ?_
     refine sq_r (ry_move rfl) ?_
     refine sq_gt rfl rfl rfl (fun hg => (Ry.yl (ry_move rfl))) ?_
     refine sq_gt rfl rfl rfl (fun hg => (Ry.yl (ry_move rfl))) ?_
     refine sq_gt rfl rfl rfl (fun hg => (Ry.yl (ry_move rfl))) ?_
     refine sq_gt rfl rfl rfl (fun hg => (Ry.yl (ry_idxH (ev_c hg rfl) (ev_c hg rfl) i rfl (by omega)))) ?_
     refine sq_gt rfl rfl rfl (fun hg => (Ry.yl (ry_field (ev_c hg rfl) rfl))) ?_
     refine sq_gt rfl rfl rfl (fun hg => (Ry.yl (ry_field (ev_c hg rfl) rfl))) ?_
     refine sq_gt rfl rfl rfl (fun hg => (Ry.yl (ry_elempH (j := 0) (ev_c hg rfl) i hc rfl (by decide)))) ?_
     refine sq_gt rfl rfl rfl (fun hg => yl_callC (evl_cons (ev_c hg rfl) (evl_cons (ev_c hg rfl) evl_nil)) trivial) ?_
     refine sq_gt rfl rfl rfl (fun hg => (Ry.yl (ry_int (ev_c hg rfl) rfl rfl))) ?_
     refine sq_r (ry_and rfl rfl rfl) ?_
     refine sq_nil ?_
     refine ex_then ?_
     refine cw_cond rfl (fun h4 => ?_) (fun h4 => ?_)
     ·
      try simp only [bz0, bz1, bz2, bz3, bz4, bz5, bz6, bz7, bz8, bz9] at h4
      obtain ⟨h41, h42⟩ := h4
      have hn4 : hasR ts c.r.p = none := by
       cases hh : hopO ts c.r.p with
       | none => exact Option.map_eq_none_iff.1 hh
       | some x => rw [hh] at h42; simp only [hasI] at h42; omega
      refine cw_exit ?_
      refine ex_pass_exit ?_
      refine ex_block_hit ?_
      refine ex_then ?_
      refine cw_region ?_
      refine sq_r (ry_move rfl) ?_
      refine sq_r (ry_add rfl rfl (by omega)) ?_
      refine sq_r (ry_assign rfl) ?_
      refine sq_nil ?_
      exact ex_again (x := (i, o, g, q)) (i + 1, o, g, q) ⟨by first | omega | (simp only []; omega), hC.skip hc h41 hn4, hi4⟩ (by simp only; omega) (Sub.cons rfl (Sub.cons rfl (Sub.cons rfl (Sub.cons rfl (Sub.cons rfl (Sub.nil _)))))) (fun w hw => Keep.mem hw)
     ·
      try simp only [bz0, bz1, bz2, bz3, bz4, bz5, bz6, bz7, bz8, bz9] at h4
      have hg4 : c.gone = true → hasR ts c.r.p ≠ none := fun hg hn => by
       rcases h4 with h | h
       ·
        rw [hg] at h; cases h
       ·
        rw [hopO, hn] at h; exact h (by decide)
      obtain ⟨hs1, hs2⟩ := hC.step o1 o2 o3 (by omega) hc hg4
      refine cw_skip ?_
      refine ex_then ?_
      refine cw_seq ?_
      refine cw_region ?_
      refine sq_r (ry_move rfl) ?_
      refine sq_r (ry_move rfl) ?_
      refine sq_r (ry_move rfl) ?_
      refine sq_r (ry_move rfl) ?_
      refine sq_r (ry_add rfl rfl (by omega)) ?_
      have rg136 : Rg i (i + 1) (chnF ts us vs).length := ⟨by omega⟩
      refine sq_r (ry_subH rfl rfl rfl i (i + 1) rfl rfl rg136.h.1 rg136.h.2) ?_
      refine sq_callC rfl (by omega) fun x137 hp137 => ?_
      rw [hone, hs1]
      refine sq_r (ry_move rfl) ?_
      refine sq_r (ry_extract (v := x137.val) rfl rfl) ?_
      refine sq_r (ry_extract (v := .int .i64 0) rfl rfl) ?_
      refine sq_r (ry_assign rfl) ?_
      refine sq_r (ry_assign rfl) ?_
      refine sq_nil ?_
      refine ex_then ?_
      refine cw_seq ?_
      refine cw_seq ?_
      refine cw_region ?_
      refine sq_r (ry_move rfl) ?_
      refine sq_r (ry_int rfl rfl rfl) ?_
      refine sq_nil ?_
      refine ex_then ?_
      refine cw_cond rfl (fun h5 => ?_) (fun h5 => ?_)
      ·
       exfalso; simp at h5
      ·
       try simp only [bz0, bz1, bz2, bz3, bz4, bz5, bz6, bz7, bz8, bz9] at h5
       refine cw_skip ?_
       refine ex_then ?_
       refine cw_region ?_
       refine sq_r (ry_move rfl) ?_
       refine sq_r (ry_assign rfl) ?_
       refine sq_nil ?_
       refine ex_block ?_
       refine ex_then ?_
       refine cw_region ?_
       refine sq_r (ry_move rfl) ?_
       refine sq_r (ry_add rfl rfl (by omega)) ?_
       refine sq_r (ry_assign rfl) ?_
       refine sq_nil ?_
       exact ex_again (x := (i, o, g, q)) (i + 1, x137, false, appL q [c]) ⟨by first | omega | (simp only []; omega), hs2, fun h => by cases h⟩ (by simp only; omega) (Sub.cons rfl (Sub.cons rfl (Sub.cons rfl (Sub.cons rfl (Sub.cons rfl (Sub.nil _)))))) (fun w hw => Mem.selF (Keep.mem hw))
    ·
     try simp only [bz0, bz1, bz2, bz3, bz4, bz5, bz6, bz7, bz8, bz9] at h3
     obtain rfl : i = (chnF ts us vs).length := by omega
     have hqv := hC.done o1 o2 o3
     refine cw_exit ?_
     refine ex_pass_exit ?_
     refine ex_pass_exit ?_
     refine ex_block_hit ?_
     refine ex_then ?_
     refine cw_seq ?_
     refine cw_region ?_
     refine sq_r (ry_move rfl) ?_
     refine sq_r (ry_move rfl) ?_
     refine sq_y (yl_callC rfl (by omega)) ?_
     refine sq_r (ry_assign rfl) ?_
     refine sq_nil ?_
     refine ex_then ?_
     refine cw_ret ?_
     refine ex_ret (.inl rfl) (res_1 rfl (rv_tmp rfl)) (fun w1 hw => ?_)
     exact ⟨congrArg (fun b => Ending.returned (Value.bool b)) ((by simp [hqv])), Keep.mem hw⟩

end Go.Proofs.Ytldkgicmfbofiaa

