/- The law of tables that differ: walked. -/
import Derived.Test.YtldkgicmfbofiaaMr
import Derived.Test.YtldkgicmfbofiaaMv

set_option linter.unusedSimpArgs false
set_option linter.unusedVariables false
namespace Go.Proofs.Ytldkgicmfbofiaa
open Go.Eng Go.Kb
set_option maxRecDepth 20000 in
theorem deltaRight_c (w : World) (t : Sv) (ts : List Rt) (u : Sv) (us : List Rt) (v : Sv) (vs : List Rt) (l : Sv) (ls : List Ch) (ht : Lies rcells 19 (hp w) t ts) (hu : Lies rcells 19 (hp w) u us) (hv : Lies rcells 19 (hp w) v vs) (hl : Lies chcells 20 (hp w) l ls) : Calls Try.prog 11 #[t.val, u.val, v.val, l.val] w fun e w' => e = .returned (.bool true) ∧ Mem w [] w' := by
 have ght : Gv w t rcells 19 ts := ⟨ht⟩
 have ghu : Gv w u rcells 19 us := ⟨hu⟩
 have ghv : Gv w v rcells 19 vs := ⟨hv⟩
 have ghl : Gv w l chcells 20 ls := ⟨hl⟩
 refine calls_of (args := [_, _, _, _]) Try.func11 rfl Try.ntmps11 rfl ?_
 change Cw _ _ _ _ _ [(0, t.val), (1, u.val), (2, v.val), (3, l.val)] []
 refine cw_seq ?_
 refine cw_region ?_
 refine sq_r (ry_assign rfl) ?_
 refine sq_nil ?_
 refine ex_then ?_
 refine cw_seq ?_
 refine cw_seq ?_
 refine cw_region ?_
 refine sq_y (yl_callC rfl trivial) ?_
 refine sq_r (ry_not rfl) ?_
 refine sq_nil ?_
 refine ex_then ?_
 refine cw_cond rfl (fun h0 => ?_) (fun h0 => ?_)
 ·
  exfalso; simp at h0
 ·
  try simp only [bz0, bz1, bz2, bz3, bz4, bz5, bz6, bz7, bz8, bz9] at h0
  refine cw_skip ?_
  refine ex_then ?_
  refine cw_seq ?_
  refine cw_seq ?_
  refine cw_region ?_
  refine sq_r (ry_move rfl) ?_
  refine sq_r (ry_lenH rfl) ?_
  refine sq_r (ry_int rfl rfl rfl) ?_
  refine sq_r (ry_move rfl) ?_
  refine sq_gf rfl rfl rfl (fun hg => (Ry.yl (ry_move rfl))) ?_
  refine sq_gf rfl rfl rfl (fun hg => (Ry.yl (ry_lenH (ev_c hg rfl)))) ?_
  refine sq_gf rfl rfl rfl (fun hg => (Ry.yl (ry_int (ev_c hg rfl) rfl rfl))) ?_
  refine sq_r (ry_or rfl rfl rfl) ?_
  refine sq_r (ry_move rfl) ?_
  refine sq_gf rfl rfl rfl (fun hg => (Ry.yl (ry_move rfl))) ?_
  refine sq_gf rfl rfl rfl (fun hg => (Ry.yl (ry_lenH (ev_c hg rfl)))) ?_
  refine sq_gf rfl rfl rfl (fun hg => (Ry.yl (ry_int (ev_c hg rfl) rfl rfl))) ?_
  refine sq_r (ry_or rfl rfl rfl) ?_
  refine sq_r (ry_move rfl) ?_
  refine sq_gf rfl rfl rfl (fun hg => (Ry.yl (ry_move rfl))) ?_
  refine sq_gf rfl rfl rfl (fun hg => (Ry.yl (ry_lenH (ev_c hg rfl)))) ?_
  refine sq_gf rfl rfl rfl (fun hg => (Ry.yl (ry_int (ev_c hg rfl) rfl rfl))) ?_
  refine sq_r (ry_or rfl rfl rfl) ?_
  refine sq_nil ?_
  refine ex_then ?_
  refine cw_cond rfl (fun h1 => ?_) (fun h1 => ?_)
  ·
   try simp only [bz0, bz1, bz2, bz3, bz4, bz5, bz6, bz7, bz8, bz9] at h1
   refine cw_seq ?_
   refine cw_region ?_
   refine sq_r (ry_assign rfl) ?_
   refine sq_nil ?_
   refine ex_then ?_
   refine cw_ret ?_
   refine ex_pass_ret ?_
   refine ex_ret (.inl rfl) (res_1 rfl (rv_tmp rfl)) (fun w1 hw => ?_)
   exact ⟨congrArg (fun b => Ending.returned (Value.bool b)) (rfl), Keep.mem hw⟩
  ·
   try simp only [bz0, bz1, bz2, bz3, bz4, bz5, bz6, bz7, bz8, bz9] at h1
   obtain ⟨⟨⟨g1, g2⟩, g3⟩, g4⟩ := h1
   have dl := (diff_len (t := ts) (u := us)).1
   have fl := fold_len ls
   refine cw_skip ?_
   refine ex_then ?_
   refine cw_seq ?_
   refine cw_region ?_
   refine sq_r (ry_move rfl) ?_
   refine sq_r (ry_move rfl) ?_
   refine sq_callC rfl trivial fun x48 hp48 => ?_
   refine sq_r (ry_move rfl) ?_
   refine sq_r (ry_extract (v := x48.val) rfl rfl) ?_
   refine sq_r (ry_extract (v := .int .i64 (difE ts us)) rfl rfl) ?_
   refine sq_r (ry_assign rfl) ?_
   refine sq_r (ry_assign rfl) ?_
   refine sq_nil ?_
   refine ex_then ?_
   refine cw_cut (X := Unit) (fun zz => [(0, t.val), (1, u.val), (2, v.val), (3, l.val)]) (fun zz => []) (fun zz => True) ?_ ?_
   ·
    refine cw_seq ?_
    refine cw_region ?_
    refine sq_r (ry_move rfl) ?_
    refine sq_y (yl_callC rfl trivial) ?_
    refine sq_r (ry_not rfl) ?_
    refine sq_r (ry_move rfl) ?_
    refine sq_gf rfl rfl rfl (fun hg => (Ry.yl (ry_move rfl))) ?_
    refine sq_gf rfl rfl rfl (fun hg => yl_callC (evl_cons (ev_c hg rfl) evl_nil) trivial) ?_
    refine sq_gf rfl rfl rfl (fun hg => (Ry.yl (ry_not (ev_c hg rfl)))) ?_
    refine sq_r (ry_or rfl rfl rfl) ?_
    refine sq_nil ?_
    refine ex_then ?_
    refine cw_cond rfl (fun h2 => ?_) (fun h2 => ?_)
    ·
     try simp only [bz0, bz1, bz2, bz3, bz4, bz5, bz6, bz7, bz8, bz9] at h2
     have hE : difE ts us = 1 := by rw [difE, if_neg (by rcases h2 with h | h <;> rw [h] <;> simp)]
     have hL : difL ts us = [] := by rw [difL, if_neg (by rw [hE]; decide)]
     refine cw_seq ?_
     refine cw_region ?_
     refine sq_r (ry_move rfl) ?_
     refine sq_r (ry_int rfl rfl rfl) ?_
     refine sq_r (ry_move rfl) ?_
     refine sq_gf rfl rfl rfl (fun hg => (Ry.yl (ry_move rfl))) ?_
     refine sq_gf rfl rfl rfl (fun hg => (Ry.yl (ry_lenH (ev_c hg rfl)))) ?_
     refine sq_gf rfl rfl rfl (fun hg => (Ry.yl (ry_int (ev_c hg rfl) rfl rfl))) ?_
     refine sq_r (ry_or rfl rfl rfl) ?_
     refine sq_nil ?_
     refine ex_then ?_
     refine cw_cond rfl (fun h3 => ?_) (fun h3 => ?_)
     ·
      try simp only [bz0, bz1, bz2, bz3, bz4, bz5, bz6, bz7, bz8, bz9] at h3
      exfalso; simp [hE, hL] at h3
     ·
      try simp only [bz0, bz1, bz2, bz3, bz4, bz5, bz6, bz7, bz8, bz9] at h3
      refine cw_skip ?_
      exact ex_meet () trivial (Sub.cons rfl (Sub.cons rfl (Sub.cons rfl (Sub.cons rfl (Sub.nil _))))) (fun w hw => Keep.mem hw)
    ·
     try simp only [bz0, bz1, bz2, bz3, bz4, bz5, bz6, bz7, bz8, bz9] at h2
     obtain ⟨h21, h22⟩ := h2
     have hE : difE ts us = 0 := by rw [difE, if_pos (by rw [h21, h22]; rfl)]
     have hL : difL ts us = diffF ts us := by rw [difL, if_pos hE]
     refine cw_seq ?_
     refine cw_region ?_
     refine sq_r (ry_move rfl) ?_
     refine sq_r (ry_int rfl rfl rfl) ?_
     refine sq_r (ry_move rfl) ?_
     refine sq_ty rfl rfl rfl (by simp [hE, hL]) (Ry.yl (ry_move rfl)) ?_
     refine sq_ty rfl rfl rfl (by simp [hE, hL]) (Ry.yl (ry_move rfl)) ?_
     refine sq_ty rfl rfl rfl (by simp [hE, hL]) (Ry.yl (ry_move rfl)) ?_
     refine sq_tcallC rfl rfl (by simp [hE, hL]) rfl ⟨by omega, by omega⟩ fun x72 hp72 => ?_
     refine sq_ty rfl rfl rfl (by simp [hE, hL]) (yl_callC rfl trivial) ?_
     refine sq_ty rfl rfl rfl (by simp [hE, hL]) (Ry.yl (ry_not rfl)) ?_
     refine sq_r (ry_pickF rfl (by simp [hE, hL]) rfl rfl) ?_
     refine sq_nil ?_
     refine ex_then ?_
     refine cw_cond rfl (fun h4 => ?_) (fun h4 => ?_)
     ·
      try simp only [bz0, bz1, bz2, bz3, bz4, bz5, bz6, bz7, bz8, bz9] at h4
      exfalso; simp [hL] at h4
     ·
      try simp only [bz0, bz1, bz2, bz3, bz4, bz5, bz6, bz7, bz8, bz9] at h4
      refine cw_skip ?_
      exact ex_meet () trivial (Sub.cons rfl (Sub.cons rfl (Sub.cons rfl (Sub.cons rfl (Sub.nil _))))) (fun w hw => Keep.mem hw)
   ·
    rintro ⟨⟩ hJ
    refine cw_seq ?_
    refine cw_region ?_
    refine sq_r (ry_move rfl) ?_
    refine sq_callC rfl (by omega) fun x78 hp78 => ?_
    refine sq_r (ry_move rfl) ?_
    refine sq_r (ry_extract (v := x78.val) rfl rfl) ?_
    refine sq_r (ry_extract (v := .int .i64 (fldE ls)) rfl rfl) ?_
    refine sq_r (ry_assign rfl) ?_
    refine sq_r (ry_assign rfl) ?_
    refine sq_nil ?_
    refine ex_then ?_
    refine cw_cut (X := Unit) (fun zz => [(0, t.val), (1, u.val), (2, v.val), (3, l.val)]) (fun zz => []) (fun zz => True) ?_ ?_
    ·
     refine cw_seq ?_
     refine cw_region ?_
     refine sq_r (ry_move rfl) ?_
     refine sq_y (yl_callC rfl trivial) ?_
     refine sq_r (ry_not rfl) ?_
     refine sq_nil ?_
     refine ex_then ?_
     refine cw_cond rfl (fun h5 => ?_) (fun h5 => ?_)
     ·
      try simp only [bz0, bz1, bz2, bz3, bz4, bz5, bz6, bz7, bz8, bz9] at h5
      have hE : fldE ls = 1 := by rw [fldE, if_neg (by rw [h5]; simp)]
      have hL : fldL ls = [] := by rw [fldL, if_neg (by rw [hE]; decide)]
      refine cw_seq ?_
      refine cw_region ?_
      refine sq_r (ry_move rfl) ?_
      refine sq_r (ry_int rfl rfl rfl) ?_
      refine sq_r (ry_move rfl) ?_
      refine sq_gf rfl rfl rfl (fun hg => (Ry.yl (ry_move rfl))) ?_
      refine sq_gf rfl rfl rfl (fun hg => (Ry.yl (ry_lenH (ev_c hg rfl)))) ?_
      refine sq_gf rfl rfl rfl (fun hg => (Ry.yl (ry_int (ev_c hg rfl) rfl rfl))) ?_
      refine sq_r (ry_or rfl rfl rfl) ?_
      refine sq_nil ?_
      refine ex_then ?_
      refine cw_cond rfl (fun h6 => ?_) (fun h6 => ?_)
      ·
       try simp only [bz0, bz1, bz2, bz3, bz4, bz5, bz6, bz7, bz8, bz9] at h6
       exfalso; simp [hE, hL] at h6
      ·
       try simp only [bz0, bz1, bz2, bz3, bz4, bz5, bz6, bz7, bz8, bz9] at h6
       refine cw_skip ?_
       exact ex_meet () trivial (Sub.cons rfl (Sub.cons rfl (Sub.cons rfl (Sub.cons rfl (Sub.nil _))))) (fun w hw => Keep.mem hw)
     ·
      try simp only [bz0, bz1, bz2, bz3, bz4, bz5, bz6, bz7, bz8, bz9] at h5
      have hmc : MayC ls := mayB_iff.1 h5
      have hE : fldE ls = 0 := by rw [fldE, if_pos h5]
      have hL : fldL ls = rfoldF ls := by rw [fldL, if_pos hE, fold_same]
      refine cw_seq ?_
      refine cw_region ?_
      refine sq_r (ry_move rfl) ?_
      refine sq_r (ry_int rfl rfl rfl) ?_
      refine sq_r (ry_move rfl) ?_
      refine sq_ty rfl rfl rfl (by simp [hE, hL]) (Ry.yl (ry_move rfl)) ?_
      refine sq_ty rfl rfl rfl (by simp [hE, hL]) (Ry.yl (ry_move rfl)) ?_
      refine sq_tcallC rfl rfl (by simp [hE, hL]) rfl ⟨by omega, by assumption⟩ fun x96 hp96 => ?_
      refine sq_ty rfl rfl rfl (by simp [hE, hL]) (yl_callC rfl trivial) ?_
      refine sq_ty rfl rfl rfl (by simp [hE, hL]) (Ry.yl (ry_not rfl)) ?_
      refine sq_r (ry_pickF rfl (by simp [hE, hL]) rfl rfl) ?_
      refine sq_nil ?_
      refine ex_then ?_
      refine cw_cond rfl (fun h7 => ?_) (fun h7 => ?_)
      ·
       try simp only [bz0, bz1, bz2, bz3, bz4, bz5, bz6, bz7, bz8, bz9] at h7
       exfalso; simp [hL] at h7
      ·
       try simp only [bz0, bz1, bz2, bz3, bz4, bz5, bz6, bz7, bz8, bz9] at h7
       refine cw_skip ?_
       exact ex_meet () trivial (Sub.cons rfl (Sub.cons rfl (Sub.cons rfl (Sub.cons rfl (Sub.nil _))))) (fun w hw => Keep.mem hw)
    ·
     rintro ⟨⟩ hJ
     refine cw_seq ?_
     refine cw_region ?_
     refine sq_r (ry_move rfl) ?_
     refine sq_r (ry_move rfl) ?_
     refine sq_callC rfl trivial fun x103 hp103 => ?_
     refine sq_r (ry_move rfl) ?_
     refine sq_r (ry_extract (v := x103.val) rfl rfl) ?_
     refine sq_r (ry_extract (v := .int .i64 (bhE ts ls)) rfl rfl) ?_
     refine sq_r (ry_assign rfl) ?_
     refine sq_r (ry_assign rfl) ?_
     refine sq_nil ?_
     refine ex_then ?_
     refine cw_seq ?_
     refine cw_region ?_
     refine sq_r (ry_move rfl) ?_
     refine sq_r (ry_move rfl) ?_
     refine sq_callC rfl trivial fun x109 hp109 => ?_
     refine sq_r (ry_move rfl) ?_
     refine sq_r (ry_extract (v := x109.val) rfl rfl) ?_
     refine sq_r (ry_extract (v := .int .i64 (bhE ts ls)) rfl rfl) ?_
     refine sq_r (ry_assign rfl) ?_
     refine sq_r (ry_assign rfl) ?_
     refine sq_nil ?_
     refine ex_then ?_
     refine cw_cut (X := Unit) (fun zz => [(0, t.val), (1, u.val), (2, v.val)]) (fun zz => []) (fun zz => True) ?_ ?_
     ·
      refine cw_seq ?_
      refine cw_region ?_
      refine sq_r (ry_move rfl) ?_
      refine sq_y (yl_callC rfl trivial) ?_
      refine sq_r (ry_not rfl) ?_
      refine sq_r (ry_move rfl) ?_
      refine sq_gf rfl rfl rfl (fun hg => (Ry.yl (ry_move rfl))) ?_
      refine sq_gf rfl rfl rfl (fun hg => yl_callC (evl_cons (ev_c hg rfl) evl_nil) trivial) ?_
      refine sq_gf rfl rfl rfl (fun hg => (Ry.yl (ry_not (ev_c hg rfl)))) ?_
      refine sq_r (ry_or rfl rfl rfl) ?_
      refine sq_nil ?_
      refine ex_then ?_
      refine cw_cond rfl (fun h8 => ?_) (fun h8 => ?_)
      ·
       try simp only [bz0, bz1, bz2, bz3, bz4, bz5, bz6, bz7, bz8, bz9] at h8
       have hn8 : ¬ (tright ts && mayB ls) = true := by rcases h8 with h | h <;> rw [h] <;> simp
       have hE : bhE ts ls = 1 := by rw [bhE, if_neg hn8]
       have hn : needL ts ls = [] := by rw [needL, if_neg (by rw [hE]; decide)]
       have hu : undoL ts ls = [] := by rw [undoL, if_neg (by rw [hE]; decide)]
       refine cw_seq ?_
       refine cw_region ?_
       refine sq_r (ry_move rfl) ?_
       refine sq_r (ry_int rfl rfl rfl) ?_
       refine sq_r (ry_move rfl) ?_
       refine sq_gf rfl rfl rfl (fun hg => (Ry.yl (ry_move rfl))) ?_
       refine sq_gf rfl rfl rfl (fun hg => (Ry.yl (ry_int (ev_c hg rfl) rfl rfl))) ?_
       refine sq_r (ry_or rfl rfl rfl) ?_
       refine sq_r (ry_move rfl) ?_
       refine sq_gf rfl rfl rfl (fun hg => (Ry.yl (ry_move rfl))) ?_
       refine sq_gf rfl rfl rfl (fun hg => (Ry.yl (ry_lenH (ev_c hg rfl)))) ?_
       refine sq_gf rfl rfl rfl (fun hg => (Ry.yl (ry_int (ev_c hg rfl) rfl rfl))) ?_
       refine sq_r (ry_or rfl rfl rfl) ?_
       refine sq_r (ry_move rfl) ?_
       refine sq_gf rfl rfl rfl (fun hg => (Ry.yl (ry_move rfl))) ?_
       refine sq_gf rfl rfl rfl (fun hg => (Ry.yl (ry_lenH (ev_c hg rfl)))) ?_
       refine sq_gf rfl rfl rfl (fun hg => (Ry.yl (ry_int (ev_c hg rfl) rfl rfl))) ?_
       refine sq_r (ry_or rfl rfl rfl) ?_
       refine sq_nil ?_
       refine ex_then ?_
       refine cw_cond rfl (fun h9 => ?_) (fun h9 => ?_)
       ·
        try simp only [bz0, bz1, bz2, bz3, bz4, bz5, bz6, bz7, bz8, bz9] at h9
        exfalso; simp [hE, hn, hu] at h9
       ·
        try simp only [bz0, bz1, bz2, bz3, bz4, bz5, bz6, bz7, bz8, bz9] at h9
        refine cw_skip ?_
        exact ex_meet () trivial (Sub.cons rfl (Sub.cons rfl (Sub.cons rfl (Sub.nil _)))) (fun w hw => Keep.mem hw)
      ·
       try simp only [bz0, bz1, bz2, bz3, bz4, bz5, bz6, bz7, bz8, bz9] at h8
       obtain ⟨h81, h82⟩ := h8
       have hb : bhE ts ls = appE ts ls := by rw [bhE, if_pos (by rw [h81, h82]; rfl)]
       have hal := tr_len (apL_right h81 ls)
       refine cw_seq ?_
       refine cw_region ?_
       refine sq_r (ry_move rfl) ?_
       refine sq_r (ry_move rfl) ?_
       refine sq_callC rfl (by assumption) fun x139 hp139 => ?_
       have sg139 : SelG x139.2 x139.1 (appL ts ls) t ts := ⟨hp139⟩
       refine sq_r (ry_move rfl) ?_
       refine sq_r (ry_extract (v := x139.1.val) rfl rfl) ?_
       refine sq_r (ry_extract (v := .int .i64 (appE ts ls)) rfl rfl) ?_
       refine sq_r (ry_assign rfl) ?_
       refine sq_r (ry_assign rfl) ?_
       refine sq_nil ?_
       refine ex_then ?_
       refine cw_seq ?_
       refine cw_seq ?_
       refine cw_region ?_
       refine sq_r (ry_move rfl) ?_
       refine sq_r (ry_move rfl) ?_
       refine sq_r (ry_int rfl rfl rfl) ?_
       refine sq_r (ry_move rfl) ?_
       refine sq_gf rfl rfl rfl (fun hg => (Ry.yl (ry_move rfl))) ?_
       refine sq_gf rfl rfl rfl (fun hg => (Ry.yl (ry_move rfl))) ?_
       refine sq_gf rfl rfl rfl (fun hg => (Ry.yl (ry_int (ev_c hg rfl) (ev_c hg rfl) rfl))) ?_
       refine sq_r (ry_or rfl rfl rfl) ?_
       refine sq_nil ?_
       refine ex_then ?_
       refine cw_cond rfl (fun h10 => ?_) (fun h10 => ?_)
       ·
        try simp only [bz0, bz1, bz2, bz3, bz4, bz5, bz6, bz7, bz8, bz9] at h10
        exfalso; simp [hb] at h10
       ·
        try simp only [bz0, bz1, bz2, bz3, bz4, bz5, bz6, bz7, bz8, bz9] at h10
        refine cw_skip ?_
        refine ex_then ?_
        refine cw_seq ?_
        by_cases hz : appE ts ls = 0
        ·
         have hb0 : bhE ts ls = 0 := hb.trans hz
         have hn : needL ts ls = diffF ts (appL ts ls) := if_pos hb0
         have hu : undoL ts ls = diffF (appL ts ls) ts := if_pos hb0
         refine cw_region ?_
         refine sq_r (ry_move rfl) ?_
         refine sq_r (ry_int rfl rfl rfl) ?_
         refine sq_r (ry_move rfl) ?_
         refine sq_ty rfl rfl rfl (by simp [hz, hn, hu]) (Ry.yl (ry_move rfl)) ?_
         refine sq_ty rfl rfl rfl (by simp [hz, hn, hu]) (Ry.yl (ry_move rfl)) ?_
         refine sq_ty rfl rfl rfl (by simp [hz, hn, hu]) (Ry.yl (ry_move rfl)) ?_
         refine sq_tcallC rfl rfl (by simp [hz, hn, hu]) rfl ⟨by omega, by omega⟩ fun x156 hp156 => ?_
         refine sq_ty rfl rfl rfl (by simp [hz, hn, hu]) (yl_callC rfl trivial) ?_
         refine sq_ty rfl rfl rfl (by simp [hz, hn, hu]) (Ry.yl (ry_not rfl)) ?_
         refine sq_ty rfl rfl rfl (by simp [hz, hn, hu]) (Ry.yl (ry_move rfl)) ?_
         refine sq_ty rfl rfl rfl (by simp [hz, hn, hu]) (Ry.yl (ry_move rfl)) ?_
         refine sq_ty rfl rfl rfl (by simp [hz, hn, hu]) (Ry.yl (ry_move rfl)) ?_
         refine sq_ty rfl rfl rfl (by simp [hz, hn, hu]) (Ry.yl (ry_move rfl)) ?_
         refine sq_tcallC rfl rfl (by simp [hz, hn, hu]) rfl ⟨by omega, by omega⟩ fun x163 hp163 => ?_
         refine sq_ty rfl rfl rfl (by simp [hz, hn, hu]) (yl_callC rfl trivial) ?_
         refine sq_ty rfl rfl rfl (by simp [hz, hn, hu]) (Ry.yl (ry_not rfl)) ?_
         refine sq_ty rfl rfl rfl (by simp [hz, hn, hu]) (Ry.yl (ry_pickF rfl (by simp [hz, hn, hu]) rfl rfl)) ?_
         refine sq_r (ry_pickT rfl (by simp [hz, hn, hu]) rfl rfl) ?_
         refine sq_r (ry_move rfl) ?_
         refine sq_ty rfl rfl rfl (by simp [hz, hn, hu]) (Ry.yl (ry_move rfl)) ?_
         refine sq_ty rfl rfl rfl (by simp [hz, hn, hu]) (Ry.yl (ry_int rfl rfl rfl)) ?_
         refine sq_ty rfl rfl rfl (by simp [hz, hn, hu]) (Ry.yl (ry_move rfl)) ?_
         refine sq_sk rfl rfl (by simp [hz, hn, hu]) ?_
         refine sq_sk rfl rfl (by simp [hz, hn, hu]) ?_
         refine sq_sk rfl rfl (by simp [hz, hn, hu]) ?_
         refine sq_sk rfl rfl (by simp [hz, hn, hu]) ?_
         refine sq_sk rfl rfl (by simp [hz, hn, hu]) ?_
         refine sq_sk rfl rfl (by simp [hz, hn, hu]) ?_
         refine sq_ty rfl rfl rfl (by simp [hz, hn, hu]) (Ry.yl (ry_pickO rfl (by simp [hz, hn, hu]) rfl rfl)) ?_
         refine sq_r (ry_pickF rfl (by simp [hz, hn, hu]) rfl rfl) ?_
         refine sq_nil ?_
         refine ex_then ?_
         refine cw_cond rfl (fun h11 => ?_) (fun h11 => ?_)
         ·
          exfalso; simp at h11
         ·
          try simp only [bz0, bz1, bz2, bz3, bz4, bz5, bz6, bz7, bz8, bz9] at h11
          refine cw_skip ?_
          exact ex_meet () trivial (Sub.cons rfl (Sub.cons rfl (Sub.cons rfl (Sub.nil _)))) (fun w hw => Keep.mem hw)
        ·
         have hb0 : ¬ bhE ts ls = 0 := by rw [hb]; exact hz
         have hn : needL ts ls = [] := if_neg hb0
         have hu : undoL ts ls = [] := if_neg hb0
         have hnl : (needL ts ls).length = 0 := by rw [hn]; rfl
         have hul : (undoL ts ls).length = 0 := by rw [hu]; rfl
         refine cw_region ?_
         refine sq_r (ry_move rfl) ?_
         refine sq_r (ry_int rfl rfl rfl) ?_
         refine sq_r (ry_move rfl) ?_
         refine sq_sk rfl rfl (by simp [hz, hn, hu]) ?_
         refine sq_sk rfl rfl (by simp [hz, hn, hu]) ?_
         refine sq_sk rfl rfl (by simp [hz, hn, hu]) ?_
         refine sq_sk rfl rfl (by simp [hz, hn, hu]) ?_
         refine sq_sk rfl rfl (by simp [hz, hn, hu]) ?_
         refine sq_sk rfl rfl (by simp [hz, hn, hu]) ?_
         refine sq_sk rfl rfl (by simp [hz, hn, hu]) ?_
         refine sq_sk2 rfl rfl ?_
         refine sq_sk2 rfl rfl ?_
         refine sq_sk2 rfl rfl ?_
         refine sq_sk2 rfl rfl ?_
         refine sq_sk2 rfl rfl ?_
         refine sq_sk2 rfl rfl ?_
         refine sq_sk rfl rfl (by simp [hz, hn, hu]) ?_
         refine sq_r (ry_pickO rfl (by simp [hz, hn, hu]) rfl rfl) ?_
         refine sq_r (ry_move rfl) ?_
         refine sq_ty rfl rfl rfl (by simp [hz, hn, hu]) (Ry.yl (ry_move rfl)) ?_
         refine sq_ty rfl rfl rfl (by simp [hz, hn, hu]) (Ry.yl (ry_int rfl rfl rfl)) ?_
         refine sq_ty rfl rfl rfl (by simp [hz, hn, hu]) (Ry.yl (ry_move rfl)) ?_
         refine sq_ty rfl rfl rfl (by simp [hz, hn, hu]) (Ry.yl (ry_move rfl)) ?_
         refine sq_ty rfl rfl rfl (by simp [hz, hn, hu]) (Ry.yl (ry_lenH rfl)) ?_
         refine sq_ty rfl rfl rfl (by simp [hz, hn, hu]) (Ry.yl (ry_move rfl)) ?_
         refine sq_ty rfl rfl rfl (by simp [hz, hn, hu]) (Ry.yl (ry_lenH rfl)) ?_
         refine sq_ty rfl rfl rfl (by simp [hz, hn, hu]) (Ry.yl (ry_add rfl rfl (by omega))) ?_
         refine sq_ty rfl rfl rfl (by simp [hz, hn, hu]) (Ry.yl (ry_int rfl rfl rfl)) ?_
         refine sq_ty rfl rfl rfl (by simp [hz, hn, hu]) (Ry.yl (ry_pickT rfl (by simp [hz, hn, hu]) rfl rfl)) ?_
         refine sq_r (ry_pickF rfl (by simp [hz, hn, hu]) rfl rfl) ?_
         refine sq_nil ?_
         refine ex_then ?_
         refine cw_cond rfl (fun h11 => ?_) (fun h11 => ?_)
         ·
          try simp only [bz0, bz1, bz2, bz3, bz4, bz5, bz6, bz7, bz8, bz9] at h11
          exfalso; simp [hn, hu] at h11
         ·
          try simp only [bz0, bz1, bz2, bz3, bz4, bz5, bz6, bz7, bz8, bz9] at h11
          refine cw_skip ?_
          exact ex_meet () trivial (Sub.cons rfl (Sub.cons rfl (Sub.cons rfl (Sub.nil _)))) (fun w hw => Keep.mem hw)
     ·
      rintro ⟨⟩ hJ
      refine cw_seq ?_
      refine cw_region ?_
      refine sq_r (ry_move rfl) ?_
      refine sq_r (ry_move rfl) ?_
      refine sq_r (ry_move rfl) ?_
      refine sq_callC rfl trivial fun x184 hp184 => ?_
      refine sq_r (ry_move rfl) ?_
      refine sq_r (ry_extract (v := x184.1.val) rfl rfl) ?_
      refine sq_r (ry_extract (v := x184.2.val) rfl rfl) ?_
      refine sq_r (ry_extract (v := .int .i64 (bothE ts us vs)) rfl rfl) ?_
      refine sq_r (ry_assign rfl) ?_
      refine sq_r (ry_assign rfl) ?_
      refine sq_r (ry_assign rfl) ?_
      refine sq_nil ?_
      refine ex_then ?_
      refine cw_seq ?_
      refine cw_seq ?_
      refine cw_region ?_
      refine sq_r (ry_move rfl) ?_
      refine sq_y (yl_callC rfl trivial) ?_
      refine sq_r (ry_not rfl) ?_
      refine sq_r (ry_move rfl) ?_
      refine sq_gf rfl rfl rfl (fun hg => (Ry.yl (ry_move rfl))) ?_
      refine sq_gf rfl rfl rfl (fun hg => yl_callC (evl_cons (ev_c hg rfl) evl_nil) trivial) ?_
      refine sq_gf rfl rfl rfl (fun hg => (Ry.yl (ry_not (ev_c hg rfl)))) ?_
      refine sq_r (ry_or rfl rfl rfl) ?_
      refine sq_r (ry_move rfl) ?_
      refine sq_gf rfl rfl rfl (fun hg => (Ry.yl (ry_move rfl))) ?_
      refine sq_gf rfl rfl rfl (fun hg => yl_callC (evl_cons (ev_c hg rfl) evl_nil) trivial) ?_
      refine sq_gf rfl rfl rfl (fun hg => (Ry.yl (ry_not (ev_c hg rfl)))) ?_
      refine sq_r (ry_or rfl rfl rfl) ?_
      refine sq_nil ?_
      refine ex_then ?_
      refine cw_cond rfl (fun h12 => ?_) (fun h12 => ?_)
      ·
       try simp only [bz0, bz1, bz2, bz3, bz4, bz5, bz6, bz7, bz8, bz9] at h12
       obtain ⟨q1, q2, q3⟩ := bothOk_no (t := ts) (a := us) (b := vs) (by rintro ⟨g1, g2, g3⟩; rcases h12 with (h | h) | h <;> simp_all)
       refine cw_seq ?_
       refine cw_region ?_
       refine sq_r (ry_move rfl) ?_
       refine sq_r (ry_int rfl rfl rfl) ?_
       refine sq_r (ry_move rfl) ?_
       refine sq_gt rfl rfl rfl (fun hg => (Ry.yl (ry_move rfl))) ?_
       refine sq_gt rfl rfl rfl (fun hg => (Ry.yl (ry_lenH (ev_c hg rfl)))) ?_
       refine sq_gt rfl rfl rfl (fun hg => (Ry.yl (ry_int (ev_c hg rfl) rfl rfl))) ?_
       refine sq_r (ry_and rfl rfl rfl) ?_
       refine sq_r (ry_move rfl) ?_
       refine sq_gt rfl rfl rfl (fun hg => (Ry.yl (ry_move rfl))) ?_
       refine sq_gt rfl rfl rfl (fun hg => (Ry.yl (ry_lenH (ev_c hg rfl)))) ?_
       refine sq_gt rfl rfl rfl (fun hg => (Ry.yl (ry_int (ev_c hg rfl) rfl rfl))) ?_
       refine sq_r (ry_and rfl rfl rfl) ?_
       refine sq_r (ry_assign rfl) ?_
       refine sq_nil ?_
       refine ex_then ?_
       refine cw_ret ?_
       refine ex_pass_ret ?_
       refine ex_ret (.inl rfl) (res_1 rfl (rv_tmp rfl)) (fun w1 hw => ?_)
       exact ⟨congrArg (fun b => Ending.returned (Value.bool b)) ((by simp [q1, q2, q3])), Keep.mem hw⟩
      ·
       try simp only [bz0, bz1, bz2, bz3, bz4, bz5, bz6, bz7, bz8, bz9] at h12
       obtain ⟨⟨k1, k2⟩, k3⟩ := h12
       have bl := both_len (right_ord k1) (right_ord k2) (right_ord k3)
       have bl2 : (bothL ts us vs).length ≤ 512 := by
        rw [bothL]
        split
        ·
         omega
        ·
         simp
       refine cw_skip ?_
       refine ex_then ?_
       refine cw_seq ?_
       refine cw_region ?_
       refine sq_r (ry_move rfl) ?_
       refine sq_r (ry_move rfl) ?_
       refine sq_r (ry_move rfl) ?_
       refine sq_callC rfl ⟨by assumption, by assumption, by assumption⟩ fun x217 hp217 => ?_
       refine sq_r (ry_move rfl) ?_
       refine sq_r (ry_extract (v := x217.1.val) rfl rfl) ?_
       refine sq_r (ry_extract (v := x217.2.val) rfl rfl) ?_
       refine sq_r (ry_extract (v := .int .i64 (bothE ts us vs)) rfl rfl) ?_
       refine sq_r (ry_assign rfl) ?_
       refine sq_r (ry_assign rfl) ?_
       refine sq_r (ry_assign rfl) ?_
       refine sq_nil ?_
       refine ex_then ?_
       refine cw_seq ?_
       refine cw_region ?_
       refine sq_r (ry_move rfl) ?_
       refine sq_r (ry_move rfl) ?_
       refine sq_y (yl_callC rfl (by omega)) ?_
       refine sq_r (ry_move rfl) ?_
       refine sq_gt rfl rfl rfl (fun hg => (Ry.yl (ry_move rfl))) ?_
       refine sq_gt rfl rfl rfl (fun hg => (Ry.yl (ry_move rfl))) ?_
       refine sq_gt rfl rfl rfl (fun hg => yl_callC (evl_cons (ev_c hg rfl) (evl_cons (ev_c hg rfl) evl_nil)) trivial) ?_
       refine sq_r (ry_and rfl rfl rfl) ?_
       refine sq_r (ry_move rfl) ?_
       refine sq_gt rfl rfl rfl (fun hg => (Ry.yl (ry_move rfl))) ?_
       refine sq_gt rfl rfl rfl (fun hg => (Ry.yl (ry_move rfl))) ?_
       refine sq_gt rfl rfl rfl (fun hg => (Ry.yl (ry_int (ev_c hg rfl) (ev_c hg rfl) rfl))) ?_
       refine sq_r (ry_and rfl rfl rfl) ?_
       refine sq_r (ry_assign rfl) ?_
       refine sq_nil ?_
       refine ex_then ?_
       refine cw_ret ?_
       refine ex_ret (.inl rfl) (res_1 rfl (rv_tmp rfl)) (fun w1 hw => ?_)
       exact ⟨congrArg (fun b => Ending.returned (Value.bool b)) ((by simp)), Keep.mem hw⟩

end Go.Proofs.Ytldkgicmfbofiaa

