/- How two prefixes compare; insertion sort of changes, turns: walked. -/
import Derived.Test.YtldkgicmfbofiaaMx
import Derived.Test.YtldkgicmfbofiaaMu
import Derived.Test.YtldkgicmfbofiaaMv

set_option linter.unusedSimpArgs false
set_option linter.unusedVariables false
namespace Go.Proofs.Ytldkgicmfbofiaa
open Go.Eng Go.Kb
set_option maxRecDepth 20000 in
theorem dorder_c (w : World) (p : Pfx) (q : Pfx)  : Calls Try.prog 68 #[.agg (pcells p), .agg (pcells q)] w fun e w' => e = .returned (.int .i64 (ordV p q)) ∧ Mem w [] w' := by
 refine calls_of (args := [_, _]) Try.func68 rfl Try.ntmps68 rfl ?_
 change Cw _ _ _ _ _ [(0, .agg (pcells p)), (1, .agg (pcells q))] []
 refine cw_seq ?_
 refine cw_region ?_
 refine sq_boxA rfl fun b2 => ?_
 refine sq_boxA rfl fun b3 => ?_
 refine sq_r (ry_assign rfl) ?_
 refine sq_nil ?_
 refine ex_then ?_
 refine cw_seq ?_
 refine cw_block ?_
 refine cw_seq ?_
 refine cw_region ?_
 refine sq_r (ry_whole rfl) ?_
 refine sq_r (ry_whole rfl) ?_
 refine sq_y (yl_callC rfl trivial) ?_
 refine sq_r (ry_assign rfl) ?_
 refine sq_nil ?_
 refine ex_then ?_
 refine cw_cond rfl (fun h0 => ?_) (fun h0 => ?_)
 ·
  try simp only [bz0, bz1, bz2, bz3, bz4, bz5, bz6, bz7, bz8, bz9] at h0
  refine cw_seq ?_
  refine cw_region ?_
  refine sq_r (ry_assign rfl) ?_
  refine sq_nil ?_
  refine ex_then ?_
  refine cw_ret ?_
  refine ex_block_ret ?_
  refine ex_pass_ret ?_
  refine ex_ret (.inl rfl) (res_1 rfl (rv_tmp rfl)) (fun w1 hw => ?_)
  exact ⟨congrArg (fun b => Ending.returned (Value.int .i64 b)) ((by rw [ordV, if_pos h0])), Keep.mem hw⟩
 ·
  try simp only [bz0, bz1, bz2, bz3, bz4, bz5, bz6, bz7, bz8, bz9] at h0
  refine cw_seq ?_
  refine cw_region ?_
  refine sq_r (ry_whole rfl) ?_
  refine sq_r (ry_whole rfl) ?_
  refine sq_y (yl_callC rfl trivial) ?_
  refine sq_r (ry_assign rfl) ?_
  refine sq_nil ?_
  refine ex_then ?_
  refine cw_cond rfl (fun h1 => ?_) (fun h1 => ?_)
  ·
   try simp only [bz0, bz1, bz2, bz3, bz4, bz5, bz6, bz7, bz8, bz9] at h1
   refine cw_seq ?_
   refine cw_region ?_
   refine sq_r (ry_assign rfl) ?_
   refine sq_nil ?_
   refine ex_then ?_
   refine cw_ret ?_
   refine ex_block_ret ?_
   refine ex_pass_ret ?_
   refine ex_ret (.inl rfl) (res_1 rfl (rv_tmp rfl)) (fun w1 hw => ?_)
   exact ⟨congrArg (fun b => Ending.returned (Value.int .i64 b)) ((by rw [ordV, if_neg (by rw [h0]; simp), if_pos h1])), Keep.mem hw⟩
  ·
   try simp only [bz0, bz1, bz2, bz3, bz4, bz5, bz6, bz7, bz8, bz9] at h1
   refine cw_skip ?_
   refine ex_block ?_
   refine ex_then ?_
   refine cw_seq ?_
   refine cw_region ?_
   refine sq_r (ry_assign rfl) ?_
   refine sq_nil ?_
   refine ex_then ?_
   refine cw_ret ?_
   refine ex_ret (.inl rfl) (res_1 rfl (rv_tmp rfl)) (fun w1 hw => ?_)
   exact ⟨congrArg (fun b => Ending.returned (Value.int .i64 b)) ((by rw [ordV, if_neg (by rw [h0]; simp), if_neg (by rw [h1]; simp)])), Keep.mem hw⟩
instance dorder_i {w0 : World} {L : List Ent} {p : Pfx} {q : Pfx}  : FnQ Try.prog 68 w0 L [.agg (pcells p), .agg (pcells q)] (.int .i64 (ordV p q)) (True) := ⟨fun hp w hw => dorder_c w p q ⟩
set_option maxRecDepth 20000 in
theorem dfold1_c (w : World) (x : Ch) (y : Ch)  : Calls Try.prog 67 #[.agg (chcells x), .agg (chcells y)] w fun e w' => e = .returned (.int .i64 (cmpC x y)) ∧ Mem w [] w' := by
 refine calls_of (args := [_, _]) Try.func67 rfl Try.ntmps67 rfl ?_
 change Cw _ _ _ _ _ [(0, .agg (chcells x)), (1, .agg (chcells y))] []
 refine cw_seq ?_
 refine cw_region ?_
 refine sq_boxA rfl fun b2 => ?_
 refine sq_boxA rfl fun b3 => ?_
 refine sq_r (ry_assign rfl) ?_
 refine sq_nil ?_
 refine ex_then ?_
 refine cw_seq ?_
 refine cw_region ?_
 refine sq_r (ry_field (o' := 0) rfl rfl) ?_
 refine sq_r (ry_field (o' := 0) rfl rfl) ?_
 refine sq_r (ry_part rfl) ?_
 refine sq_r (ry_field (o' := 0) rfl rfl) ?_
 refine sq_r (ry_field (o' := 0) rfl rfl) ?_
 refine sq_r (ry_part rfl) ?_
 refine sq_y (yl_callC rfl trivial) ?_
 refine sq_r (ry_assign rfl) ?_
 refine sq_nil ?_
 refine ex_then ?_
 refine cw_ret ?_
 refine ex_ret (.inl rfl) (res_1 rfl (rv_tmp rfl)) (fun w1 hw => ?_)
 exact ⟨congrArg (fun b => Ending.returned (Value.int .i64 b)) (rfl), Keep.mem hw⟩
instance dfold1_i {w0 : World} {L : List Ent} {x : Ch} {y : Ch}  : FnQ Try.prog 67 w0 L [.agg (chcells x), .agg (chcells y)] (.int .i64 (cmpC x y)) (True) := ⟨fun hp w hw => dfold1_c w x y ⟩
set_option maxRecDepth 20000 in
theorem dat1_c (w : World) (r : Rt) (p : Pfx)  : Calls Try.prog 84 #[.agg (rcells r), .agg (pcells p)] w fun e w' => e = .returned (.int .i64 (ordV r.p p)) ∧ Mem w [] w' := by
 refine calls_of (args := [_, _]) Try.func84 rfl Try.ntmps84 rfl ?_
 change Cw _ _ _ _ _ [(0, .agg (rcells r)), (1, .agg (pcells p))] []
 refine cw_seq ?_
 refine cw_region ?_
 refine sq_boxA rfl fun b2 => ?_
 refine sq_boxA rfl fun b3 => ?_
 refine sq_r (ry_assign rfl) ?_
 refine sq_nil ?_
 refine ex_then ?_
 refine cw_seq ?_
 refine cw_region ?_
 refine sq_r (ry_field (o' := 0) rfl rfl) ?_
 refine sq_r (ry_part rfl) ?_
 refine sq_r (ry_whole rfl) ?_
 refine sq_y (yl_callC rfl trivial) ?_
 refine sq_r (ry_assign rfl) ?_
 refine sq_nil ?_
 refine ex_then ?_
 refine cw_ret ?_
 refine ex_ret (.inl rfl) (res_1 rfl (rv_tmp rfl)) (fun w1 hw => ?_)
 exact ⟨congrArg (fun b => Ending.returned (Value.int .i64 b)) (rfl), Keep.mem hw⟩
instance dat1_i {w0 : World} {L : List Ent} {r : Rt} {p : Pfx}  : FnQ Try.prog 84 w0 L [.agg (rcells r), .agg (pcells p)] (.int .i64 (ordV r.p p)) (True) := ⟨fun hp w hw => dat1_c w r p ⟩
set_option maxRecDepth 20000 in
theorem insC_c (w0 w : World) (L : List Ent) (s : Sv) (xs : List Ch) (a : Nat) (n : Nat) (hw : Mem w0 (own chcells 20 s xs :: L) w) (hpre : a ≤ n ∧ n ≤ xs.length ∧ xs.length ≤ 1000000 ∧ MayC xs) : Calls Try.prog 100 #[s.val, .int .i64 (a : Nat), .int .i64 (n : Nat), .func (.func 67) #[] #[]] w fun e w' => ∃ zz : List Ch, e = .returned (.tuple #[]) ∧ (Upto rkC xs a n zz) ∧ Mem w0 (own chcells 20 s zz :: L) w' := by
 obtain ⟨hp1, hp2, hp3, hp4⟩ := hpre
 refine calls_in (args := [_, _, _, _]) Try.func100 rfl Try.ntmps100 rfl hw ?_
 change Cw _ _ _ _ _ [(0, s.val), (1, .int .i64 (a : Nat)), (2, .int .i64 (n : Nat)), (3, .func (.func 67) #[] #[])] (own chcells 20 s xs :: L)
 refine cw_seq ?_
 refine cw_region ?_
 refine sq_r (ry_move rfl) ?_
 refine sq_r (ry_add rfl rfl (by omega)) ?_
 refine sq_r (ry_assign rfl) ?_
 refine sq_nil ?_
 refine ex_then ?_
 refine cw_block ?_
 refine cw_loop (X := Nat × List Ch) (fun zz => [(8, .int .i64 (zz.1 : Nat)), (0, s.val), (1, .int .i64 (a : Nat)), (2, .int .i64 (n : Nat)), (3, .func (.func 67) #[] #[])]) (fun zz => own chcells 20 s zz.2 :: L) (fun zz => a < zz.1 ∧ zz.1 ≤ n + 1 ∧ Upto rkC xs a (min zz.1 n) zz.2) (fun zz => n + 1 - zz.1) (a + 1, xs) ⟨by first | omega | (simp only []; omega), by first | omega | (simp only []; omega), by rcases Nat.lt_or_ge a n with h | h; (rw [show min (a + 1) n = a + 1 by first | omega | (simp only []; omega)]; exact upto_one (by first | omega | (simp only []; omega))); (rw [show min (a + 1) n = a by first | omega | (simp only []; omega)]; exact upto_nil (by first | omega | (simp only []; omega)))⟩ (Sub.cons rfl (Sub.cons rfl (Sub.cons rfl (Sub.cons rfl (Sub.cons rfl (Sub.nil _)))))) (fun w hw => Keep.mem hw) ?_
 rintro ⟨i, ys⟩ ⟨hi1, hi2, hi3⟩
 dsimp only
 simp only at hi1 hi2 hi3
 have ly := hi3.length (by omega) (by omega)
 have hmy : MayC ys := fun x hx => hp4 x ((upto_same hi3 (by omega) (by omega)).1 hx)
 refine cw_seq ?_
 refine cw_seq ?_
 refine cw_region ?_
 refine sq_r (ry_move rfl) ?_
 refine sq_r (ry_move rfl) ?_
 refine sq_r (ry_int rfl rfl rfl) ?_
 refine sq_nil ?_
 refine ex_then ?_
 refine cw_cond rfl (fun h0 => ?_) (fun h0 => ?_)
 ·
  try simp only [bz0, bz1, bz2, bz3, bz4, bz5, bz6, bz7, bz8, bz9] at h0
  rw [show min i n = i by omega] at hi3
  refine cw_skip ?_
  refine ex_then ?_
  refine cw_seq ?_
  refine cw_block ?_
  refine cw_seq ?_
  refine cw_region ?_
  refine sq_r (ry_move rfl) ?_
  refine sq_r (ry_assign rfl) ?_
  refine sq_nil ?_
  refine ex_then ?_
  refine cw_block ?_
  refine cw_loop (X := Nat × List Ch) (fun zz => [(9, .int .i64 (zz.1 : Nat)), (0, s.val), (1, .int .i64 (a : Nat)), (2, .int .i64 (n : Nat)), (3, .func (.func 67) #[] #[]), (8, .int .i64 (i : Nat))]) (fun zz => own chcells 20 s zz.2 :: L) (fun zz => Slid ys zz.2 i zz.1 ∧ a ≤ zz.1 ∧ zz.1 ≤ i ∧ ∀ t, zz.1 ≤ t → t < i → rk rkC ys i < rk rkC ys t) (fun zz => zz.1) (i, ys) ⟨Slid.refl, by first | omega | (simp only []; omega), Nat.le_refl _, fun t h1 h2 => absurd h2 (Nat.not_lt_of_le h1)⟩ (Sub.cons rfl (Sub.cons rfl (Sub.cons rfl (Sub.cons rfl (Sub.cons rfl (Sub.cons rfl (Sub.nil _))))))) (fun w hw => Keep.mem hw) ?_
  rintro ⟨j, ts⟩ ⟨hj1, hj2, hj3, hj4⟩
  dsimp only
  simp only at hj1 hj2 hj3 hj4
  have lt := hj1.len
  have hmt : MayC ts := fun x hx => hmy x (hj1.mem hj3 (by omega) hx)
  have e1 : ((j : Int) - 1).toNat = j - 1 := by omega
  refine cw_seq ?_
  refine cw_seq ?_
  refine cw_quiet (by kernel_rfl) (by kernel_rfl) ?_
  refine qt_r (ry_move rfl) ?_
  refine qt_r (ry_move rfl) ?_
  refine qt_r (ry_int rfl rfl rfl) ?_
  refine qt_r (ry_move rfl) ?_
  refine qt_gt rfl rfl rfl (fun hg => (Ry.yl (ry_move rfl))) ?_
  refine qt_gt rfl rfl rfl (fun hg => (Ry.yl (ry_move rfl))) ?_
  refine qt_gt rfl rfl rfl (fun hg => (Ry.yl (ry_move rfl))) ?_
  refine qt_gt rfl rfl rfl (fun hg => (Ry.yl (ry_idxH (ev_c hg rfl) (ev_c hg rfl) j rfl (by simp only [bz0, bz1, bz2, bz3, bz4, bz5, bz6, bz7, bz8, bz9] at hg; omega)))) ?_
  refine qt_gt rfl rfl rfl (fun hg => (Ry.yl (ry_elemH (ev_c hg rfl) j (get_getD (xs := ts) (i := j) (d := zch) (by simp only [bz0, bz1, bz2, bz3, bz4, bz5, bz6, bz7, bz8, bz9] at hg; omega)) rfl))) ?_
  refine qt_gt rfl rfl rfl (fun hg => (Ry.yl (ry_move rfl))) ?_
  refine qt_gt rfl rfl rfl (fun hg => (Ry.yl (ry_move rfl))) ?_
  refine qt_gt rfl rfl rfl (fun hg => (Ry.yl (ry_sub (ev_c hg rfl) rfl (by simp only [bz0, bz1, bz2, bz3, bz4, bz5, bz6, bz7, bz8, bz9] at hg; omega)))) ?_
  refine qt_gt rfl rfl rfl (fun hg => (Ry.yl (ry_idxH (ev_c hg rfl) (ev_c hg rfl) (((((j : Nat) : Int) - 1)).toNat) (by simp only [bz0, bz1, bz2, bz3, bz4, bz5, bz6, bz7, bz8, bz9] at hg; omega) (by simp only [bz0, bz1, bz2, bz3, bz4, bz5, bz6, bz7, bz8, bz9] at hg; omega)))) ?_
  refine qt_gt rfl rfl rfl (fun hg => (Ry.yl (ry_elemH (ev_c hg rfl) (((((j : Nat) : Int) - 1)).toNat) (get_getD (xs := ts) (i := ((((j : Nat) : Int) - 1)).toNat) (d := zch) (by simp only [bz0, bz1, bz2, bz3, bz4, bz5, bz6, bz7, bz8, bz9] at hg; omega)) rfl))) ?_
  refine qt_gt rfl rfl rfl (fun hg => yl_callV (vs := [.agg (chcells (ts.getD j zch)), .agg (chcells (ts.getD ((j : Int) - 1).toNat zch))]) (vs2 := [.agg (chcells (ts.getD j zch)), .agg (chcells (ts.getD ((j : Int) - 1).toNat zch))]) (ev_c hg rfl) (evl_cons (ev_c hg rfl) (evl_cons (ev_c hg rfl) evl_nil)) rfl trivial) ?_
  refine qt_gt rfl rfl rfl (fun hg => (Ry.yl (ry_int (ev_c hg rfl) rfl rfl))) ?_
  refine qt_r (ry_and rfl rfl rfl) ?_
  refine qt_nil ?_
  refine ex_then ?_
  refine cw_cond rfl (fun h1 => ?_) (fun h1 => ?_)
  ·
   try simp only [bz0, bz1, bz2, bz3, bz4, bz5, bz6, bz7, bz8, bz9] at h1
   have hlt : rk rkC ys i < rk rkC ys (j - 1) := by
    have h2 := h1.2
    rw [e1, cmp_rkD hmt (by omega) (by omega), slid_at hj1, slid_below hj1 (by omega)] at h2
    exact h2
   refine cw_skip ?_
   refine ex_then ?_
   refine cw_seq ?_
   refine cw_block ?_
   obtain ⟨x, hx⟩ := get_some (xs := ts) (i := j) (by omega)
   obtain ⟨y, hy⟩ := get_some (xs := ts) (i := (j - 1)) (by omega)
   refine cw_lin [15, 17, 1008, 1009, 1012, 1013, 1014, 1016] [[], [], [], [], [], [], [], [], [], [8], [], [], [], [12], [8, 9, 12, 13], [8, 9, 12, 13, 14], [8, 9, 12, 13, 14, 15], [8, 9, 12, 13, 14, 15, 16]] [0, 1, 2, 3, 4, 5, 6, 7, 8, 9, 10, 11, 12, 13, 14, 15, 16, 17] [] (fun _ hw => Keep.mem hw) (by kernel_rfl) (by kernel_rfl) ?_
   refine ln_r rfl (ry_move rfl) ?_
   refine ln_r rfl (ry_move rfl) ?_
   refine ln_r rfl (ry_move rfl) ?_
   refine ln_r rfl (ry_move rfl) ?_
   refine ln_r rfl (ry_sub rfl rfl (by omega)) ?_
   refine ln_r rfl (ry_move rfl) ?_
   refine ln_r rfl (ry_move rfl) ?_
   refine ln_r rfl (ry_sub rfl rfl (by omega)) ?_
   refine lt_r rfl (ry_idxH rfl rfl (j - 1) (by omega) (by omega)) ?_
   refine lt_r rfl (ry_elemH rfl (j - 1) hy rfl) ?_
   refine ln_r rfl (ry_move rfl) ?_
   refine ln_r rfl (ry_move rfl) ?_
   refine lt_r rfl (ry_idxH rfl rfl j (by omega) (by omega)) ?_
   refine lt_r rfl (ry_elemH rfl j hx rfl) ?_
   refine lt_r rfl (ry_idxH rfl rfl j (by omega) (by omega)) ?_
   refine ln_st rfl (st_storeS (n := 20) (k := j) (j := 0) (a := x) (a' := y) (xs := ts) (enc := chcells) (c := 20) (v := .agg (chcells y)) (by kernel_rfl) rfl rfl rfl hx (show (chcells y).all (·.oneCell') = true from Enc.one y) (chcells_size y) (by decide) (over_whole (by rw [chcells_size]; exact (chcells_size y).symm)) ⟨fun _ hw => Keep.mem hw, ?_⟩)
   refine lt_r rfl (ry_idxH rfl rfl (j - 1) (by omega) (by rw [List.length_set]; omega)) ?_
   refine ln_st rfl (st_storeS (n := 20) (k := (j - 1)) (j := 0) (a := y) (a' := x) (xs := (ts.set j y)) (enc := chcells) (c := 20) (v := .agg (chcells x)) (by kernel_rfl) rfl rfl rfl (by rw [List.getElem?_set_ne (by omega)]; exact hy) (show (chcells x).all (·.oneCell') = true from Enc.one x) (chcells_size x) (by decide) (over_whole (by rw [chcells_size]; exact (chcells_size x).symm)) ⟨fun _ hw => Keep.mem hw, ?_⟩)
   refine ln_nil ?_
   refine ex_block ?_
   refine ex_then ?_
   refine cw_region ?_
   refine sq_r (ry_move rfl) ?_
   refine sq_r (ry_sub rfl rfl (by omega)) ?_
   refine sq_r (ry_assign rfl) ?_
   refine sq_nil ?_
   exact ex_again (x := (j, ts)) (j - 1, swp ts j (j - 1)) ⟨hj1.step (by first | omega | (simp only []; omega)) hj3 (by first | omega | (simp only []; omega)), by first | omega | (simp only []; omega), by first | omega | (simp only []; omega), fun t h2 h3 => (Nat.eq_or_lt_of_le h2).elim (fun h => h ▸ hlt) fun h => hj4 t (by first | omega | (simp only []; omega)) h3⟩ (by simp only; omega) (Sub.cons (look_eq rfl (by congr 1; omega)) (Sub.cons rfl (Sub.cons rfl (Sub.cons rfl (Sub.cons rfl (Sub.cons rfl (Sub.nil _))))))) (fun w hw => by rw [swp_set hx hy]; exact Keep.mem hw)
  ·
   try simp only [bz0, bz1, bz2, bz3, bz4, bz5, bz6, bz7, bz8, bz9] at h1
   have hdone : Upto rkC xs a (i + 1) ts := by
    refine ins_done hi3 (by omega) (by omega) hj1 hj2 hj3 hj4 ?_
    rcases h1 with h | h
    ·
     left; omega
    ·
     by_cases e : j = a
     ·
      exact .inl e
     ·
      rw [e1, cmp_rkD hmt (by omega) (by omega), slid_at hj1, slid_below hj1 (by omega)] at h
      right; omega
   refine cw_exit ?_
   refine ex_pass_exit ?_
   refine ex_pass_exit ?_
   refine ex_block_hit ?_
   refine ex_block ?_
   refine ex_then ?_
   refine cw_region ?_
   refine sq_r (ry_move rfl) ?_
   refine sq_r (ry_add rfl rfl (by omega)) ?_
   refine sq_r (ry_assign rfl) ?_
   refine sq_nil ?_
   exact ex_again (x := (i, ys)) (i + 1, ts) ⟨by first | omega | (simp only []; omega), by first | omega | (simp only []; omega), by rw [show min (i + 1) n = i + 1 by first | omega | (simp only []; omega)]; exact hdone⟩ (by simp only; omega) (Sub.cons rfl (Sub.cons rfl (Sub.cons rfl (Sub.cons rfl (Sub.cons rfl (Sub.nil _)))))) (fun w hw => Keep.mem hw)
 ·
  try simp only [bz0, bz1, bz2, bz3, bz4, bz5, bz6, bz7, bz8, bz9] at h0
  rw [show min i n = n by omega] at hi3
  refine cw_exit ?_
  refine ex_pass_exit ?_
  refine ex_pass_exit ?_
  refine ex_block_hit ?_
  refine ex_ret (.inr rfl) (res_none rfl) (fun w1 hw => ?_)
  exact ⟨ys, rfl, hi3, Keep.mem hw⟩
instance insC_i {w0 : World} {L L2 : List Ent} {i : Nat} {s : Sv} {xs : List Ch} {a : Nat} {n : Nat} [q : Owns L s chcells 20 xs i] [d1 : DelI L i L2] : FnC Try.prog 100 w0 L [s.val, .int .i64 (a : Nat), .int .i64 (n : Nat), .func (.func 67) #[] #[]] (List Ch) (fun zz => .tuple #[]) (fun zz => own chcells 20 s zz :: L2) (fun zz => Upto rkC xs a n zz) (a ≤ n ∧ n ≤ xs.length ∧ xs.length ≤ 1000000 ∧ MayC xs) := ⟨fun hp w hw => insC_c w0 w L2 s xs a n (mem_one q.h d1.h hw) hp⟩
set_option maxRecDepth 20000 in
theorem swrC_c (w0 w : World) (L : List Ent) (s : Sv) (xs : List Ch) (a : Nat) (b : Nat) (n : Nat) (hw : Mem w0 (own chcells 20 s xs :: L) w) (hpre : a + n ≤ b ∧ b + n ≤ xs.length ∧ xs.length ≤ 1000000) : Calls Try.prog 107 #[s.val, .int .i64 (a : Nat), .int .i64 (b : Nat), .int .i64 (n : Nat), .func (.func 67) #[] #[]] w fun e w' => ∃ zz : List Ch, e = .returned (.tuple #[]) ∧ (Swr xs zz a b n) ∧ Mem w0 (own chcells 20 s zz :: L) w' := by
 obtain ⟨hp1, hp2, hp3⟩ := hpre
 refine calls_in (args := [_, _, _, _, _]) Try.func107 rfl Try.ntmps107 rfl hw ?_
 change Cw _ _ _ _ _ [(0, s.val), (1, .int .i64 (a : Nat)), (2, .int .i64 (b : Nat)), (3, .int .i64 (n : Nat)), (4, .func (.func 67) #[] #[])] (own chcells 20 s xs :: L)
 refine cw_seq ?_
 refine cw_region ?_
 refine sq_r (ry_assign rfl) ?_
 refine sq_nil ?_
 refine ex_then ?_
 refine cw_block ?_
 refine cw_loop (X := Nat × List Ch) (fun zz => [(10, .int .i64 (zz.1 : Nat)), (0, s.val), (1, .int .i64 (a : Nat)), (2, .int .i64 (b : Nat)), (3, .int .i64 (n : Nat))]) (fun zz => own chcells 20 s zz.2 :: L) (fun zz => zz.1 ≤ n ∧ Swr xs zz.2 a b zz.1) (fun zz => n - zz.1) (0, xs) ⟨Nat.zero_le _, Swr.zero⟩ (Sub.cons rfl (Sub.cons rfl (Sub.cons rfl (Sub.cons rfl (Sub.cons rfl (Sub.nil _)))))) (fun w hw => Keep.mem hw) ?_
 rintro ⟨i, ys⟩ ⟨hi1, hi2⟩
 dsimp only
 simp only at hi1 hi2
 have ly := hi2.len
 refine cw_seq ?_
 refine cw_seq ?_
 refine cw_region ?_
 refine sq_r (ry_move rfl) ?_
 refine sq_r (ry_move rfl) ?_
 refine sq_r (ry_int rfl rfl rfl) ?_
 refine sq_nil ?_
 refine ex_then ?_
 refine cw_cond rfl (fun h0 => ?_) (fun h0 => ?_)
 ·
  try simp only [bz0, bz1, bz2, bz3, bz4, bz5, bz6, bz7, bz8, bz9] at h0
  refine cw_skip ?_
  refine ex_then ?_
  refine cw_seq ?_
  refine cw_block ?_
  obtain ⟨x, hx⟩ := get_some (xs := ys) (i := (a + i)) (by omega)
  obtain ⟨y, hy⟩ := get_some (xs := ys) (i := (b + i)) (by omega)
  refine cw_lin [21, 23, 1012, 1013, 1018, 1019, 1020, 1022] [[], [], [], [], [], [], [], [], [], [], [], [], [], [12], [], [], [], [], [], [18], [12, 13, 18, 19], [12, 13, 18, 19, 20], [12, 13, 18, 19, 20, 21], [12, 13, 18, 19, 20, 21, 22]] [0, 1, 2, 3, 4, 5, 6, 7, 8, 9, 10, 11, 12, 13, 14, 15, 16, 17, 18, 19, 20, 21, 22, 23] [] (fun _ hw => Keep.mem hw) (by kernel_rfl) (by kernel_rfl) ?_
  refine ln_r rfl (ry_move rfl) ?_
  refine ln_r rfl (ry_move rfl) ?_
  refine ln_r rfl (ry_move rfl) ?_
  refine ln_r rfl (ry_add rfl rfl (by omega)) ?_
  refine ln_r rfl (ry_move rfl) ?_
  refine ln_r rfl (ry_move rfl) ?_
  refine ln_r rfl (ry_move rfl) ?_
  refine ln_r rfl (ry_add rfl rfl (by omega)) ?_
  refine ln_r rfl (ry_move rfl) ?_
  refine ln_r rfl (ry_move rfl) ?_
  refine ln_r rfl (ry_move rfl) ?_
  refine ln_r rfl (ry_add rfl rfl (by omega)) ?_
  refine lt_r rfl (ry_idxH rfl rfl (b + i) (by omega) (by omega)) ?_
  refine lt_r rfl (ry_elemH rfl (b + i) hy rfl) ?_
  refine ln_r rfl (ry_move rfl) ?_
  refine ln_r rfl (ry_move rfl) ?_
  refine ln_r rfl (ry_move rfl) ?_
  refine ln_r rfl (ry_add rfl rfl (by omega)) ?_
  refine lt_r rfl (ry_idxH rfl rfl (a + i) (by omega) (by omega)) ?_
  refine lt_r rfl (ry_elemH rfl (a + i) hx rfl) ?_
  refine lt_r rfl (ry_idxH rfl rfl (a + i) (by omega) (by omega)) ?_
  refine ln_st rfl (st_storeS (n := 20) (k := (a + i)) (j := 0) (a := x) (a' := y) (xs := ys) (enc := chcells) (c := 20) (v := .agg (chcells y)) (by kernel_rfl) rfl rfl rfl hx (show (chcells y).all (·.oneCell') = true from Enc.one y) (chcells_size y) (by decide) (over_whole (by rw [chcells_size]; exact (chcells_size y).symm)) ⟨fun _ hw => Keep.mem hw, ?_⟩)
  refine lt_r rfl (ry_idxH rfl rfl (b + i) (by omega) (by rw [List.length_set]; omega)) ?_
  refine ln_st rfl (st_storeS (n := 20) (k := (b + i)) (j := 0) (a := y) (a' := x) (xs := (ys.set (a + i) y)) (enc := chcells) (c := 20) (v := .agg (chcells x)) (by kernel_rfl) rfl rfl rfl (by rw [List.getElem?_set_ne (by omega)]; exact hy) (show (chcells x).all (·.oneCell') = true from Enc.one x) (chcells_size x) (by decide) (over_whole (by rw [chcells_size]; exact (chcells_size x).symm)) ⟨fun _ hw => Keep.mem hw, ?_⟩)
  refine ln_nil ?_
  refine ex_block ?_
  refine ex_then ?_
  refine cw_region ?_
  refine sq_r (ry_move rfl) ?_
  refine sq_r (ry_add rfl rfl (by omega)) ?_
  refine sq_r (ry_assign rfl) ?_
  refine sq_nil ?_
  exact ex_again (x := (i, ys)) (i + 1, swp ys (a + i) (b + i)) ⟨by first | omega | (simp only []; omega), hi2.step (by first | omega | (simp only []; omega)) (by first | omega | (simp only []; omega))⟩ (by simp only; omega) (Sub.cons rfl (Sub.cons rfl (Sub.cons rfl (Sub.cons rfl (Sub.cons rfl (Sub.nil _)))))) (fun w hw => by rw [swp_set hx hy]; exact Keep.mem hw)
 ·
  try simp only [bz0, bz1, bz2, bz3, bz4, bz5, bz6, bz7, bz8, bz9] at h0
  obtain rfl : i = n := by omega
  refine cw_exit ?_
  refine ex_pass_exit ?_
  refine ex_pass_exit ?_
  refine ex_block_hit ?_
  refine ex_ret (.inr rfl) (res_none rfl) (fun w1 hw => ?_)
  exact ⟨ys, rfl, hi2, Keep.mem hw⟩
instance swrC_i {w0 : World} {L L2 : List Ent} {i : Nat} {s : Sv} {xs : List Ch} {a : Nat} {b : Nat} {n : Nat} [q : Owns L s chcells 20 xs i] [d1 : DelI L i L2] : FnC Try.prog 107 w0 L [s.val, .int .i64 (a : Nat), .int .i64 (b : Nat), .int .i64 (n : Nat), .func (.func 67) #[] #[]] (List Ch) (fun zz => .tuple #[]) (fun zz => own chcells 20 s zz :: L2) (fun zz => Swr xs zz a b n) (a + n ≤ b ∧ b + n ≤ xs.length ∧ xs.length ≤ 1000000) := ⟨fun hp w hw => swrC_c w0 w L2 s xs a b n (mem_one q.h d1.h hw) hp⟩
set_option maxRecDepth 20000 in
theorem rotC_c (w0 w : World) (L : List Ent) (s : Sv) (xs : List Ch) (a : Nat) (m : Nat) (n : Nat) (hw : Mem w0 (own chcells 20 s xs :: L) w) (hpre : a < m ∧ m < n ∧ n ≤ xs.length ∧ xs.length ≤ 1000000) : Calls Try.prog 104 #[s.val, .int .i64 (a : Nat), .int .i64 (m : Nat), .int .i64 (n : Nat), .func (.func 67) #[] #[]] w fun e w' => ∃ zz : List Ch, e = .returned (.tuple #[]) ∧ (zz = rot xs a m n) ∧ Mem w0 (own chcells 20 s zz :: L) w' := by
 obtain ⟨hp1, hp2, hp3, hp4⟩ := hpre
 have lr := rot_length (xs := xs) (s := a) (m := m) (e := n) (by omega) (by omega) hp3
 refine calls_in (args := [_, _, _, _, _]) Try.func104 rfl Try.ntmps104 rfl hw ?_
 change Cw _ _ _ _ _ [(0, s.val), (1, .int .i64 (a : Nat)), (2, .int .i64 (m : Nat)), (3, .int .i64 (n : Nat)), (4, .func (.func 67) #[] #[])] (own chcells 20 s xs :: L)
 refine cw_seq ?_
 refine cw_region ?_
 refine sq_r (ry_move rfl) ?_
 refine sq_r (ry_move rfl) ?_
 refine sq_r (Ry.to (v' := .int .i64 ((m - a : Nat) : Int)) (ry_sub rfl rfl (by omega)) (by congr 1 <;> omega)) ?_
 refine sq_r (ry_assign rfl) ?_
 refine sq_nil ?_
 refine ex_then ?_
 refine cw_seq ?_
 refine cw_region ?_
 refine sq_r (ry_move rfl) ?_
 refine sq_r (ry_move rfl) ?_
 refine sq_r (Ry.to (v' := .int .i64 ((n - m : Nat) : Int)) (ry_sub rfl rfl (by omega)) (by congr 1 <;> omega)) ?_
 refine sq_r (ry_assign rfl) ?_
 refine sq_nil ?_
 refine ex_then ?_
 refine cw_seq ?_
 refine cw_block ?_
 refine cw_loop (X := Nat × Nat × List Ch) (fun zz => [(10, .int .i64 (zz.1 : Nat)), (11, .int .i64 (zz.2.1 : Nat)), (0, s.val), (2, .int .i64 (m : Nat)), (4, .func (.func 67) #[] #[])]) (fun zz => own chcells 20 s zz.2.2 :: L) (fun zz => Turns zz.2.2 (rot xs a m n) m zz.1 zz.2.1 ∧ 0 < zz.1 ∧ 0 < zz.2.1 ∧ zz.2.2.length = xs.length) (fun zz => zz.1 + zz.2.1) (m - a, n - m, xs) ⟨Turns.start (by first | omega | (simp only []; omega)) (by first | omega | (simp only []; omega)) hp3, by first | omega | (simp only []; omega), by first | omega | (simp only []; omega), rfl⟩ (Sub.cons rfl (Sub.cons rfl (Sub.cons rfl (Sub.cons rfl (Sub.cons rfl (Sub.nil _)))))) (fun w hw => Keep.mem hw) ?_
 rintro ⟨i, j, ys⟩ ⟨hi1, hi2, hi3, hi4⟩
 dsimp only
 simp only at hi1 hi2 hi3 hi4
 obtain ⟨hi5, hi6⟩ := hi1.len
 refine cw_seq ?_
 refine cw_seq ?_
 refine cw_region ?_
 refine sq_r (ry_move rfl) ?_
 refine sq_r (ry_move rfl) ?_
 refine sq_r (ry_int rfl rfl rfl) ?_
 refine sq_nil ?_
 refine ex_then ?_
 refine cw_cond rfl (fun h0 => ?_) (fun h0 => ?_)
 ·
  try simp only [bz0, bz1, bz2, bz3, bz4, bz5, bz6, bz7, bz8, bz9] at h0
  refine cw_skip ?_
  refine ex_then ?_
  refine cw_block ?_
  refine cw_seq ?_
  refine cw_region ?_
  refine sq_r (ry_move rfl) ?_
  refine sq_r (ry_move rfl) ?_
  refine sq_r (ry_int rfl rfl rfl) ?_
  refine sq_nil ?_
  refine ex_then ?_
  refine cw_cond rfl (fun h1 => ?_) (fun h1 => ?_)
  ·
   try simp only [bz0, bz1, bz2, bz3, bz4, bz5, bz6, bz7, bz8, bz9] at h1
   refine cw_seq ?_
   refine cw_region ?_
   refine sq_r (ry_move rfl) ?_
   refine sq_r (ry_move rfl) ?_
   refine sq_r (ry_move rfl) ?_
   refine sq_r (Ry.to (v' := .int .i64 ((m - i : Nat) : Int)) (ry_sub rfl rfl (by omega)) (by congr 1 <;> omega)) ?_
   refine sq_r (ry_move rfl) ?_
   refine sq_r (ry_move rfl) ?_
   refine sq_r (ry_move rfl) ?_
   refine sq_callC rfl ⟨by omega, by omega, by omega⟩ fun x31 hp31 => ?_
   refine sq_nil ?_
   refine ex_then ?_
   refine cw_region ?_
   refine sq_r (ry_move rfl) ?_
   refine sq_r (ry_move rfl) ?_
   refine sq_r (Ry.to (v' := .int .i64 ((i - j : Nat) : Int)) (ry_sub rfl rfl (by omega)) (by congr 1 <;> omega)) ?_
   refine sq_r (ry_assign rfl) ?_
   refine sq_nil ?_
   refine ex_block ?_
   exact ex_again (x := (i, j, ys)) (i - j, j, x31) ⟨hi1.left (by first | omega | (simp only []; omega)) hp31, by first | omega | (simp only []; omega), by first | omega | (simp only []; omega), by rw [hp31.len, hi4]⟩ (by simp only; omega) (Sub.cons rfl (Sub.cons rfl (Sub.cons rfl (Sub.cons rfl (Sub.cons rfl (Sub.nil _)))))) (fun w hw => Keep.mem hw)
  ·
   try simp only [bz0, bz1, bz2, bz3, bz4, bz5, bz6, bz7, bz8, bz9] at h1
   refine cw_seq ?_
   refine cw_region ?_
   refine sq_r (ry_move rfl) ?_
   refine sq_r (ry_move rfl) ?_
   refine sq_r (ry_move rfl) ?_
   refine sq_r (Ry.to (v' := .int .i64 ((m - i : Nat) : Int)) (ry_sub rfl rfl (by omega)) (by congr 1 <;> omega)) ?_
   refine sq_r (ry_move rfl) ?_
   refine sq_r (ry_move rfl) ?_
   refine sq_r (ry_add rfl rfl (by omega)) ?_
   refine sq_r (ry_move rfl) ?_
   refine sq_r (Ry.to (v' := .int .i64 ((m + j - i : Nat) : Int)) (ry_sub rfl rfl (by omega)) (by congr 1 <;> omega)) ?_
   refine sq_r (ry_move rfl) ?_
   refine sq_r (ry_move rfl) ?_
   refine sq_callC rfl ⟨by omega, by omega, by omega⟩ fun x46 hp46 => ?_
   refine sq_nil ?_
   refine ex_then ?_
   refine cw_region ?_
   refine sq_r (ry_move rfl) ?_
   refine sq_r (ry_move rfl) ?_
   refine sq_r (Ry.to (v' := .int .i64 ((j - i : Nat) : Int)) (ry_sub rfl rfl (by omega)) (by congr 1 <;> omega)) ?_
   refine sq_r (ry_assign rfl) ?_
   refine sq_nil ?_
   refine ex_block ?_
   exact ex_again (x := (i, j, ys)) (i, j - i, x46) ⟨hi1.right (by first | omega | (simp only []; omega)) hp46, by first | omega | (simp only []; omega), by first | omega | (simp only []; omega), by rw [hp46.len, hi4]⟩ (by simp only; omega) (Sub.cons rfl (Sub.cons rfl (Sub.cons rfl (Sub.cons rfl (Sub.cons rfl (Sub.nil _)))))) (fun w hw => Keep.mem hw)
 ·
  try simp only [bz0, bz1, bz2, bz3, bz4, bz5, bz6, bz7, bz8, bz9] at h0
  obtain rfl : i = j := by omega
  refine cw_exit ?_
  refine ex_pass_exit ?_
  refine ex_pass_exit ?_
  refine ex_block_hit ?_
  refine ex_then ?_
  refine cw_region ?_
  refine sq_r (ry_move rfl) ?_
  refine sq_r (ry_move rfl) ?_
  refine sq_r (ry_move rfl) ?_
  refine sq_r (Ry.to (v' := .int .i64 ((m - i : Nat) : Int)) (ry_sub rfl rfl (by omega)) (by congr 1 <;> omega)) ?_
  refine sq_r (ry_move rfl) ?_
  refine sq_r (ry_move rfl) ?_
  refine sq_r (ry_move rfl) ?_
  refine sq_callC rfl ⟨by omega, by omega, by omega⟩ fun x57 hp57 => ?_
  refine sq_nil ?_
  refine ex_ret (.inr rfl) (res_none rfl) (fun w1 hw => ?_)
  exact ⟨x57, rfl, hi1.done hp57, Keep.mem hw⟩
instance rotC_i {w0 : World} {L L2 : List Ent} {i : Nat} {s : Sv} {xs : List Ch} {a : Nat} {m : Nat} {n : Nat} [q : Owns L s chcells 20 xs i] [d1 : DelI L i L2] : FnC Try.prog 104 w0 L [s.val, .int .i64 (a : Nat), .int .i64 (m : Nat), .int .i64 (n : Nat), .func (.func 67) #[] #[]] (List Ch) (fun zz => .tuple #[]) (fun zz => own chcells 20 s zz :: L2) (fun zz => zz = rot xs a m n) (a < m ∧ m < n ∧ n ≤ xs.length ∧ xs.length ≤ 1000000) := ⟨fun hp w hw => rotC_c w0 w L2 s xs a m n (mem_one q.h d1.h hw) hp⟩

end Go.Proofs.Ytldkgicmfbofiaa

/- The merge of changes in place: walked. -/
namespace Go.Proofs.Ytldkgicmfbofiaa
open Go.Eng Go.Kb
set_option maxRecDepth 20000 in
theorem symC_s (kk : Nat) (ih : ∀ {w0 : World} {L L2 : List Ent} {i : Nat} {s : Sv} {xs : List Ch} {a : Nat} {m : Nat} {n : Nat} [q : Owns L s chcells 20 xs i] [d1 : DelI L i L2], FnC Try.prog 101 w0 L [s.val, .int .i64 (a : Nat), .int .i64 (m : Nat), .int .i64 (n : Nat), .func (.func 67) #[] #[]] (List Ch) (fun zz => .tuple #[]) (fun zz => own chcells 20 s zz :: L2) (fun zz => Upto rkC xs a n zz) ((a < m ∧ m < n ∧ n ≤ xs.length ∧ xs.length ≤ 1000000 ∧ MayC xs ∧ Srt rkC (seg xs a m) ∧ Srt rkC (seg xs m n)) ∧ n - a < kk)) (w0 w : World) (L : List Ent) (s : Sv) (xs : List Ch) (a : Nat) (m : Nat) (n : Nat) (hw : Mem w0 (own chcells 20 s xs :: L) w) (hpre : a < m ∧ m < n ∧ n ≤ xs.length ∧ xs.length ≤ 1000000 ∧ MayC xs ∧ Srt rkC (seg xs a m) ∧ Srt rkC (seg xs m n)) (hk : n - a ≤ kk) : Calls Try.prog 101 #[s.val, .int .i64 (a : Nat), .int .i64 (m : Nat), .int .i64 (n : Nat), .func (.func 67) #[] #[]] w fun e w' => ∃ zz : List Ch, e = .returned (.tuple #[]) ∧ (Upto rkC xs a n zz) ∧ Mem w0 (own chcells 20 s zz :: L) w' := by
 obtain ⟨hp1, hp2, hp3, hp4, hp5, hp6, hp7⟩ := hpre
 have hsL := (srt_seg (by omega)).1 hp6
 have hsR := (srt_seg hp3).1 hp7
 refine calls_in (args := [_, _, _, _, _]) Try.func101 rfl Try.ntmps101 rfl hw ?_
 change Cw _ _ _ _ _ [(0, s.val), (1, .int .i64 (a : Nat)), (2, .int .i64 (m : Nat)), (3, .int .i64 (n : Nat)), (4, .func (.func 67) #[] #[])] (own chcells 20 s xs :: L)
 refine cw_seq ?_
 refine cw_seq ?_
 refine cw_region ?_
 refine sq_r (ry_move rfl) ?_
 refine sq_r (ry_move rfl) ?_
 refine sq_r (ry_sub rfl rfl (by omega)) ?_
 refine sq_r (ry_int rfl rfl rfl) ?_
 refine sq_nil ?_
 refine ex_then ?_
 refine cw_cond rfl (fun h0 => ?_) (fun h0 => ?_)
 ·
  try simp only [bz0, bz1, bz2, bz3, bz4, bz5, bz6, bz7, bz8, bz9] at h0
  refine cw_seq ?_
  refine cw_region ?_
  refine sq_r (ry_move rfl) ?_
  refine sq_r (ry_assign rfl) ?_
  refine sq_nil ?_
  refine ex_then ?_
  refine cw_seq ?_
  refine cw_region ?_
  refine sq_r (ry_move rfl) ?_
  refine sq_r (ry_assign rfl) ?_
  refine sq_nil ?_
  refine ex_then ?_
  refine cw_seq ?_
  refine cw_block ?_
  refine cw_loop (X := Nat × Nat) (fun zz => [(10, .int .i64 (zz.1 : Nat)), (11, .int .i64 (zz.2 : Nat)), (0, s.val), (1, .int .i64 (a : Nat)), (4, .func (.func 67) #[] #[])]) (fun zz => own chcells 20 s xs :: L) (fun zz => m ≤ zz.1 ∧ zz.1 ≤ zz.2 ∧ zz.2 ≤ n ∧ (∀ t, m ≤ t → t < zz.1 → rk rkC xs t < rk rkC xs a) ∧ (∀ t, zz.2 ≤ t → t < n → rk rkC xs a ≤ rk rkC xs t)) (fun zz => zz.2 - zz.1) (m, n) ⟨by first | omega | (simp only []; omega), by first | omega | (simp only []; omega), by first | omega | (simp only []; omega), fun t h1 h2 => absurd h2 (Nat.not_lt_of_le h1), fun t h1 h2 => absurd h2 (Nat.not_lt_of_le h1)⟩ (Sub.cons rfl (Sub.cons rfl (Sub.cons rfl (Sub.cons rfl (Sub.cons rfl (Sub.nil _)))))) (fun w hw => Keep.mem hw) ?_
  rintro ⟨i, j⟩ ⟨hi1, hi2, hi3, hi4, hi5⟩
  dsimp only
  simp only at hi1 hi2 hi3 hi4 hi5
  refine cw_seq ?_
  refine cw_seq ?_
  refine cw_region ?_
  refine sq_r (ry_move rfl) ?_
  refine sq_r (ry_move rfl) ?_
  refine sq_r (ry_int rfl rfl rfl) ?_
  refine sq_nil ?_
  refine ex_then ?_
  refine cw_cond rfl (fun h1 => ?_) (fun h1 => ?_)
  ·
   try simp only [bz0, bz1, bz2, bz3, bz4, bz5, bz6, bz7, bz8, bz9] at h1
   refine cw_skip ?_
   refine ex_then ?_
   refine cw_block ?_
   refine cw_seq ?_
   refine cw_region ?_
   refine sq_r (ry_move rfl) ?_
   refine sq_r (ry_move rfl) ?_
   refine sq_r (ry_add rfl rfl (by omega)) ?_
   refine sq_r (ry_convn rfl (by simp only [nb]; omega)) ?_
   refine sq_r (Ry.to (v' := .int .u64 (((i + j) / 2 ^ 1 : Nat) : Int)) (ry_shr (p := (i + j)) rfl rfl (by simp only [nb]; omega) (by omega)) rfl) ?_
   refine sq_r (ry_convn rfl (by simp only [nb]; omega)) ?_
   refine sq_r (ry_assign rfl) ?_
   refine sq_nil ?_
   refine ex_then ?_
   refine cw_seq ?_
   refine cw_quiet (by kernel_rfl) (by kernel_rfl) ?_
   refine qt_r (ry_move rfl) ?_
   refine qt_r (ry_move rfl) ?_
   refine qt_r (ry_move rfl) ?_
   obtain ⟨e43, he43⟩ := get_some (xs := xs) (i := ((i + j) / 2 ^ 1)) (by omega)
   refine qt_r (ry_idxH rfl rfl ((i + j) / 2 ^ 1) rfl (by omega)) ?_
   refine qt_r (ry_elemH rfl ((i + j) / 2 ^ 1) he43 rfl) ?_
   refine qt_r (ry_move rfl) ?_
   refine qt_r (ry_move rfl) ?_
   obtain ⟨e47, he47⟩ := get_some (xs := xs) (i := a) (by omega)
   refine qt_r (ry_idxH rfl rfl a rfl (by omega)) ?_
   refine qt_r (ry_elemH rfl a he47 rfl) ?_
   refine qt_y (yl_callV (vs := [.agg (chcells e43), .agg (chcells e47)]) (vs2 := [.agg (chcells e43), .agg (chcells e47)]) rfl rfl rfl trivial) ?_
   refine qt_r (ry_int rfl rfl rfl) ?_
   refine qt_nil ?_
   refine ex_then ?_
   refine cw_cond rfl (fun h2 => ?_) (fun h2 => ?_)
   ·
    try simp only [bz0, bz1, bz2, bz3, bz4, bz5, bz6, bz7, bz8, bz9] at h2
    rw [cmp_rk hp5 he43 he47] at h2
    refine cw_region ?_
    refine sq_r (ry_move rfl) ?_
    refine sq_r (ry_add rfl rfl (by omega)) ?_
    refine sq_r (ry_assign rfl) ?_
    refine sq_nil ?_
    refine ex_block ?_
    exact ex_again (x := (i, j)) (((i + j) / 2 ^ 1) + 1, j) ⟨by first | omega | (simp only []; omega), by first | omega | (simp only []; omega), by first | omega | (simp only []; omega), fun t t1 t2 => Nat.lt_of_le_of_lt (hsR t _ t1 (Nat.le_of_lt_succ t2) (by first | omega | (simp only []; omega))) h2, hi5⟩ (by simp only; omega) (Sub.cons rfl (Sub.cons rfl (Sub.cons rfl (Sub.cons rfl (Sub.cons rfl (Sub.nil _)))))) (fun w hw => Keep.mem hw)
   ·
    try simp only [bz0, bz1, bz2, bz3, bz4, bz5, bz6, bz7, bz8, bz9] at h2
    rw [cmp_rk hp5 he43 he47] at h2
    refine cw_region ?_
    refine sq_r (ry_move rfl) ?_
    refine sq_r (ry_assign rfl) ?_
    refine sq_nil ?_
    refine ex_block ?_
    exact ex_again (x := (i, j)) (i, ((i + j) / 2 ^ 1)) ⟨hi1, by first | omega | (simp only []; omega), by first | omega | (simp only []; omega), hi4, fun t t1 t2 => Nat.le_trans (Nat.le_of_not_lt h2) (hsR _ t (by first | omega | (simp only []; omega)) t1 t2)⟩ (by simp only; omega) (Sub.cons rfl (Sub.cons rfl (Sub.cons rfl (Sub.cons rfl (Sub.cons rfl (Sub.nil _)))))) (fun w hw => Keep.mem hw)
  ·
   try simp only [bz0, bz1, bz2, bz3, bz4, bz5, bz6, bz7, bz8, bz9] at h1
   have hij : i = j := by omega
   refine cw_exit ?_
   refine ex_pass_exit ?_
   refine ex_pass_exit ?_
   refine ex_block_hit ?_
   refine ex_then ?_
   refine cw_seq ?_
   refine cw_seq ?_
   refine cw_region ?_
   refine sq_r (ry_move rfl) ?_
   refine sq_r (ry_assign rfl) ?_
   refine sq_nil ?_
   refine ex_then ?_
   refine cw_block ?_
   refine cw_loop (X := Nat × List Ch) (fun zz => [(13, .int .i64 (zz.1 : Nat)), (0, s.val), (10, .int .i64 (i : Nat))]) (fun zz => own chcells 20 s zz.2 :: L) (fun zz => Slir xs zz.2 a zz.1 ∧ a ≤ zz.1 ∧ zz.1 + 1 ≤ i) (fun zz => i - zz.1) (a, xs) ⟨Slir.refl, Nat.le_refl _, by first | omega | (simp only []; omega)⟩ (Sub.cons rfl (Sub.cons rfl (Sub.cons rfl (Sub.nil _)))) (fun w hw => Keep.mem hw) ?_
   rintro ⟨k, ts⟩ ⟨hk1, hk2, hk3⟩
   dsimp only
   simp only at hk1 hk2 hk3
   have lt := hk1.len
   refine cw_seq ?_
   refine cw_seq ?_
   refine cw_region ?_
   refine sq_r (ry_move rfl) ?_
   refine sq_r (ry_move rfl) ?_
   refine sq_r (ry_sub rfl rfl (by omega)) ?_
   refine sq_r (ry_int rfl rfl rfl) ?_
   refine sq_nil ?_
   refine ex_then ?_
   refine cw_cond rfl (fun h3 => ?_) (fun h3 => ?_)
   ·
    try simp only [bz0, bz1, bz2, bz3, bz4, bz5, bz6, bz7, bz8, bz9] at h3
    refine cw_skip ?_
    refine ex_then ?_
    refine cw_seq ?_
    refine cw_block ?_
    obtain ⟨x, hx⟩ := get_some (xs := ts) (i := k) (by omega)
    obtain ⟨y, hy⟩ := get_some (xs := ts) (i := (k + 1)) (by omega)
    refine cw_lin [15, 17, 1008, 1009, 1012, 1013, 1014, 1016] [[], [], [], [], [], [], [], [], [], [8], [], [], [], [12], [8, 9, 12, 13], [8, 9, 12, 13, 14], [8, 9, 12, 13, 14, 15], [8, 9, 12, 13, 14, 15, 16]] [0, 1, 2, 3, 4, 5, 6, 7, 8, 9, 10, 11, 12, 13, 14, 15, 16, 17] [] (fun _ hw => Keep.mem hw) (by kernel_rfl) (by kernel_rfl) ?_
    refine ln_r rfl (ry_move rfl) ?_
    refine ln_r rfl (ry_move rfl) ?_
    refine ln_r rfl (ry_move rfl) ?_
    refine ln_r rfl (ry_move rfl) ?_
    refine ln_r rfl (ry_add rfl rfl (by omega)) ?_
    refine ln_r rfl (ry_move rfl) ?_
    refine ln_r rfl (ry_move rfl) ?_
    refine ln_r rfl (ry_add rfl rfl (by omega)) ?_
    refine lt_r rfl (ry_idxH rfl rfl (k + 1) (by omega) (by omega)) ?_
    refine lt_r rfl (ry_elemH rfl (k + 1) hy rfl) ?_
    refine ln_r rfl (ry_move rfl) ?_
    refine ln_r rfl (ry_move rfl) ?_
    refine lt_r rfl (ry_idxH rfl rfl k (by omega) (by omega)) ?_
    refine lt_r rfl (ry_elemH rfl k hx rfl) ?_
    refine lt_r rfl (ry_idxH rfl rfl k (by omega) (by omega)) ?_
    refine ln_st rfl (st_storeS (n := 20) (k := k) (j := 0) (a := x) (a' := y) (xs := ts) (enc := chcells) (c := 20) (v := .agg (chcells y)) (by kernel_rfl) rfl rfl rfl hx (show (chcells y).all (·.oneCell') = true from Enc.one y) (chcells_size y) (by decide) (over_whole (by rw [chcells_size]; exact (chcells_size y).symm)) ⟨fun _ hw => Keep.mem hw, ?_⟩)
    refine lt_r rfl (ry_idxH rfl rfl (k + 1) (by omega) (by rw [List.length_set]; omega)) ?_
    refine ln_st rfl (st_storeS (n := 20) (k := (k + 1)) (j := 0) (a := y) (a' := x) (xs := (ts.set k y)) (enc := chcells) (c := 20) (v := .agg (chcells x)) (by kernel_rfl) rfl rfl rfl (by rw [List.getElem?_set_ne (by omega)]; exact hy) (show (chcells x).all (·.oneCell') = true from Enc.one x) (chcells_size x) (by decide) (over_whole (by rw [chcells_size]; exact (chcells_size x).symm)) ⟨fun _ hw => Keep.mem hw, ?_⟩)
    refine ln_nil ?_
    refine ex_block ?_
    refine ex_then ?_
    refine cw_region ?_
    refine sq_r (ry_move rfl) ?_
    refine sq_r (ry_add rfl rfl (by omega)) ?_
    refine sq_r (ry_assign rfl) ?_
    refine sq_nil ?_
    exact ex_again (x := (k, ts)) (k + 1, swp ts k (k + 1)) ⟨hk1.step hk2 (by first | omega | (simp only []; omega)), by first | omega | (simp only []; omega), by first | omega | (simp only []; omega)⟩ (by simp only; omega) (Sub.cons rfl (Sub.cons rfl (Sub.cons rfl (Sub.nil _)))) (fun w hw => by rw [swp_set hx hy]; exact Keep.mem hw)
   ·
    try simp only [bz0, bz1, bz2, bz3, bz4, bz5, bz6, bz7, bz8, bz9] at h3
    have hkk : k = i - 1 := by omega
    refine cw_exit ?_
    refine ex_pass_exit ?_
    refine ex_pass_exit ?_
    refine ex_block_hit ?_
    refine ex_then ?_
    refine cw_ret ?_
    refine ex_pass_ret ?_
    refine ex_ret (.inl rfl) (res_none rfl) (fun w1 hw => ?_)
    exact ⟨ts, rfl, front_done (by rw [← hkk]; exact hk1) (by omega) (by omega) hp3 (by rw [show a + 1 = m by omega]; exact hp7) (fun t t1 t2 => hi4 t (by omega) t2) (fun t t1 t2 => hi5 t (by omega) t2), Keep.mem hw⟩
 ·
  try simp only [bz0, bz1, bz2, bz3, bz4, bz5, bz6, bz7, bz8, bz9] at h0
  refine cw_skip ?_
  refine ex_then ?_
  refine cw_seq ?_
  refine cw_seq ?_
  refine cw_region ?_
  refine sq_r (ry_move rfl) ?_
  refine sq_r (ry_move rfl) ?_
  refine sq_r (ry_sub rfl rfl (by omega)) ?_
  refine sq_r (ry_int rfl rfl rfl) ?_
  refine sq_nil ?_
  refine ex_then ?_
  refine cw_cond rfl (fun h4 => ?_) (fun h4 => ?_)
  ·
   try simp only [bz0, bz1, bz2, bz3, bz4, bz5, bz6, bz7, bz8, bz9] at h4
   refine cw_seq ?_
   refine cw_region ?_
   refine sq_r (ry_move rfl) ?_
   refine sq_r (ry_assign rfl) ?_
   refine sq_nil ?_
   refine ex_then ?_
   refine cw_seq ?_
   refine cw_region ?_
   refine sq_r (ry_move rfl) ?_
   refine sq_r (ry_assign rfl) ?_
   refine sq_nil ?_
   refine ex_then ?_
   refine cw_seq ?_
   refine cw_block ?_
   refine cw_loop (X := Nat × Nat) (fun zz => [(14, .int .i64 (zz.1 : Nat)), (15, .int .i64 (zz.2 : Nat)), (0, s.val), (2, .int .i64 (m : Nat)), (4, .func (.func 67) #[] #[])]) (fun zz => own chcells 20 s xs :: L) (fun zz => a ≤ zz.1 ∧ zz.1 ≤ zz.2 ∧ zz.2 ≤ m ∧ (∀ t, a ≤ t → t < zz.1 → rk rkC xs t ≤ rk rkC xs m) ∧ (∀ t, zz.2 ≤ t → t < m → rk rkC xs m < rk rkC xs t)) (fun zz => zz.2 - zz.1) (a, m) ⟨by first | omega | (simp only []; omega), by first | omega | (simp only []; omega), by first | omega | (simp only []; omega), fun t h1 h2 => absurd h2 (Nat.not_lt_of_le h1), fun t h1 h2 => absurd h2 (Nat.not_lt_of_le h1)⟩ (Sub.cons rfl (Sub.cons rfl (Sub.cons rfl (Sub.cons rfl (Sub.cons rfl (Sub.nil _)))))) (fun w hw => Keep.mem hw) ?_
   rintro ⟨i, j⟩ ⟨hi1, hi2, hi3, hi4, hi5⟩
   dsimp only
   simp only at hi1 hi2 hi3 hi4 hi5
   refine cw_seq ?_
   refine cw_seq ?_
   refine cw_region ?_
   refine sq_r (ry_move rfl) ?_
   refine sq_r (ry_move rfl) ?_
   refine sq_r (ry_int rfl rfl rfl) ?_
   refine sq_nil ?_
   refine ex_then ?_
   refine cw_cond rfl (fun h5 => ?_) (fun h5 => ?_)
   ·
    try simp only [bz0, bz1, bz2, bz3, bz4, bz5, bz6, bz7, bz8, bz9] at h5
    refine cw_skip ?_
    refine ex_then ?_
    refine cw_block ?_
    refine cw_seq ?_
    refine cw_region ?_
    refine sq_r (ry_move rfl) ?_
    refine sq_r (ry_move rfl) ?_
    refine sq_r (ry_add rfl rfl (by omega)) ?_
    refine sq_r (ry_convn rfl (by simp only [nb]; omega)) ?_
    refine sq_r (Ry.to (v' := .int .u64 (((i + j) / 2 ^ 1 : Nat) : Int)) (ry_shr (p := (i + j)) rfl rfl (by simp only [nb]; omega) (by omega)) rfl) ?_
    refine sq_r (ry_convn rfl (by simp only [nb]; omega)) ?_
    refine sq_r (ry_assign rfl) ?_
    refine sq_nil ?_
    refine ex_then ?_
    refine cw_seq ?_
    refine cw_quiet (by kernel_rfl) (by kernel_rfl) ?_
    refine qt_r (ry_move rfl) ?_
    refine qt_r (ry_move rfl) ?_
    refine qt_r (ry_move rfl) ?_
    obtain ⟨e95, he95⟩ := get_some (xs := xs) (i := m) (by omega)
    refine qt_r (ry_idxH rfl rfl m rfl (by omega)) ?_
    refine qt_r (ry_elemH rfl m he95 rfl) ?_
    refine qt_r (ry_move rfl) ?_
    refine qt_r (ry_move rfl) ?_
    obtain ⟨e99, he99⟩ := get_some (xs := xs) (i := ((i + j) / 2 ^ 1)) (by omega)
    refine qt_r (ry_idxH rfl rfl ((i + j) / 2 ^ 1) rfl (by omega)) ?_
    refine qt_r (ry_elemH rfl ((i + j) / 2 ^ 1) he99 rfl) ?_
    refine qt_y (yl_callV (vs := [.agg (chcells e95), .agg (chcells e99)]) (vs2 := [.agg (chcells e95), .agg (chcells e99)]) rfl rfl rfl trivial) ?_
    refine qt_r (ry_int rfl rfl rfl) ?_
    refine qt_r (ry_not rfl) ?_
    refine qt_nil ?_
    refine ex_then ?_
    refine cw_cond rfl (fun h6 => ?_) (fun h6 => ?_)
    ·
     try simp only [bz0, bz1, bz2, bz3, bz4, bz5, bz6, bz7, bz8, bz9] at h6
     rw [cmp_rk hp5 he95 he99] at h6
     refine cw_region ?_
     refine sq_r (ry_move rfl) ?_
     refine sq_r (ry_add rfl rfl (by omega)) ?_
     refine sq_r (ry_assign rfl) ?_
     refine sq_nil ?_
     refine ex_block ?_
     exact ex_again (x := (i, j)) (((i + j) / 2 ^ 1) + 1, j) ⟨by first | omega | (simp only []; omega), by first | omega | (simp only []; omega), by first | omega | (simp only []; omega), fun t t1 t2 => Nat.le_trans (hsL t _ t1 (Nat.le_of_lt_succ t2) (by first | omega | (simp only []; omega))) (Nat.le_of_not_lt h6), hi5⟩ (by simp only; omega) (Sub.cons rfl (Sub.cons rfl (Sub.cons rfl (Sub.cons rfl (Sub.cons rfl (Sub.nil _)))))) (fun w hw => Keep.mem hw)
    ·
     try simp only [bz0, bz1, bz2, bz3, bz4, bz5, bz6, bz7, bz8, bz9] at h6
     rw [cmp_rk hp5 he95 he99] at h6
     refine cw_region ?_
     refine sq_r (ry_move rfl) ?_
     refine sq_r (ry_assign rfl) ?_
     refine sq_nil ?_
     refine ex_block ?_
     exact ex_again (x := (i, j)) (i, ((i + j) / 2 ^ 1)) ⟨hi1, by first | omega | (simp only []; omega), by first | omega | (simp only []; omega), hi4, fun t t1 t2 => Nat.lt_of_lt_of_le h6 (hsL _ t (by first | omega | (simp only []; omega)) t1 t2)⟩ (by simp only; omega) (Sub.cons rfl (Sub.cons rfl (Sub.cons rfl (Sub.cons rfl (Sub.cons rfl (Sub.nil _)))))) (fun w hw => Keep.mem hw)
   ·
    try simp only [bz0, bz1, bz2, bz3, bz4, bz5, bz6, bz7, bz8, bz9] at h5
    have hij : i = j := by omega
    refine cw_exit ?_
    refine ex_pass_exit ?_
    refine ex_pass_exit ?_
    refine ex_block_hit ?_
    refine ex_then ?_
    refine cw_seq ?_
    refine cw_seq ?_
    refine cw_region ?_
    refine sq_r (ry_move rfl) ?_
    refine sq_r (ry_assign rfl) ?_
    refine sq_nil ?_
    refine ex_then ?_
    refine cw_block ?_
    refine cw_loop (X := Nat × List Ch) (fun zz => [(17, .int .i64 (zz.1 : Nat)), (0, s.val), (14, .int .i64 (i : Nat))]) (fun zz => own chcells 20 s zz.2 :: L) (fun zz => Slid xs zz.2 m zz.1 ∧ i ≤ zz.1 ∧ zz.1 ≤ m) (fun zz => zz.1) (m, xs) ⟨Slid.refl, by first | omega | (simp only []; omega), Nat.le_refl _⟩ (Sub.cons rfl (Sub.cons rfl (Sub.cons rfl (Sub.nil _)))) (fun w hw => Keep.mem hw) ?_
    rintro ⟨k, ts⟩ ⟨hk1, hk2, hk3⟩
    dsimp only
    simp only at hk1 hk2 hk3
    have lt := hk1.len
    refine cw_seq ?_
    refine cw_seq ?_
    refine cw_region ?_
    refine sq_r (ry_move rfl) ?_
    refine sq_r (ry_move rfl) ?_
    refine sq_r (ry_int rfl rfl rfl) ?_
    refine sq_nil ?_
    refine ex_then ?_
    refine cw_cond rfl (fun h7 => ?_) (fun h7 => ?_)
    ·
     try simp only [bz0, bz1, bz2, bz3, bz4, bz5, bz6, bz7, bz8, bz9] at h7
     refine cw_skip ?_
     refine ex_then ?_
     refine cw_seq ?_
     refine cw_block ?_
     obtain ⟨x, hx⟩ := get_some (xs := ts) (i := k) (by omega)
     obtain ⟨y, hy⟩ := get_some (xs := ts) (i := (k - 1)) (by omega)
     refine cw_lin [15, 17, 1008, 1009, 1012, 1013, 1014, 1016] [[], [], [], [], [], [], [], [], [], [8], [], [], [], [12], [8, 9, 12, 13], [8, 9, 12, 13, 14], [8, 9, 12, 13, 14, 15], [8, 9, 12, 13, 14, 15, 16]] [0, 1, 2, 3, 4, 5, 6, 7, 8, 9, 10, 11, 12, 13, 14, 15, 16, 17] [] (fun _ hw => Keep.mem hw) (by kernel_rfl) (by kernel_rfl) ?_
     refine ln_r rfl (ry_move rfl) ?_
     refine ln_r rfl (ry_move rfl) ?_
     refine ln_r rfl (ry_move rfl) ?_
     refine ln_r rfl (ry_move rfl) ?_
     refine ln_r rfl (ry_sub rfl rfl (by omega)) ?_
     refine ln_r rfl (ry_move rfl) ?_
     refine ln_r rfl (ry_move rfl) ?_
     refine ln_r rfl (ry_sub rfl rfl (by omega)) ?_
     refine lt_r rfl (ry_idxH rfl rfl (k - 1) (by omega) (by omega)) ?_
     refine lt_r rfl (ry_elemH rfl (k - 1) hy rfl) ?_
     refine ln_r rfl (ry_move rfl) ?_
     refine ln_r rfl (ry_move rfl) ?_
     refine lt_r rfl (ry_idxH rfl rfl k (by omega) (by omega)) ?_
     refine lt_r rfl (ry_elemH rfl k hx rfl) ?_
     refine lt_r rfl (ry_idxH rfl rfl k (by omega) (by omega)) ?_
     refine ln_st rfl (st_storeS (n := 20) (k := k) (j := 0) (a := x) (a' := y) (xs := ts) (enc := chcells) (c := 20) (v := .agg (chcells y)) (by kernel_rfl) rfl rfl rfl hx (show (chcells y).all (·.oneCell') = true from Enc.one y) (chcells_size y) (by decide) (over_whole (by rw [chcells_size]; exact (chcells_size y).symm)) ⟨fun _ hw => Keep.mem hw, ?_⟩)
     refine lt_r rfl (ry_idxH rfl rfl (k - 1) (by omega) (by rw [List.length_set]; omega)) ?_
     refine ln_st rfl (st_storeS (n := 20) (k := (k - 1)) (j := 0) (a := y) (a' := x) (xs := (ts.set k y)) (enc := chcells) (c := 20) (v := .agg (chcells x)) (by kernel_rfl) rfl rfl rfl (by rw [List.getElem?_set_ne (by omega)]; exact hy) (show (chcells x).all (·.oneCell') = true from Enc.one x) (chcells_size x) (by decide) (over_whole (by rw [chcells_size]; exact (chcells_size x).symm)) ⟨fun _ hw => Keep.mem hw, ?_⟩)
     refine ln_nil ?_
     refine ex_block ?_
     refine ex_then ?_
     refine cw_region ?_
     refine sq_r (ry_move rfl) ?_
     refine sq_r (ry_sub rfl rfl (by omega)) ?_
     refine sq_r (ry_assign rfl) ?_
     refine sq_nil ?_
     exact ex_again (x := (k, ts)) (k - 1, swp ts k (k - 1)) ⟨hk1.step (by first | omega | (simp only []; omega)) hk3 (by first | omega | (simp only []; omega)), by first | omega | (simp only []; omega), by first | omega | (simp only []; omega)⟩ (by simp only; omega) (Sub.cons (look_eq rfl (by congr 1; omega)) (Sub.cons rfl (Sub.cons rfl (Sub.nil _)))) (fun w hw => by rw [swp_set hx hy]; exact Keep.mem hw)
    ·
     try simp only [bz0, bz1, bz2, bz3, bz4, bz5, bz6, bz7, bz8, bz9] at h7
     have hkk : k = i := by omega
     refine cw_exit ?_
     refine ex_pass_exit ?_
     refine ex_pass_exit ?_
     refine ex_block_hit ?_
     refine ex_then ?_
     refine cw_ret ?_
     refine ex_pass_ret ?_
     refine ex_ret (.inl rfl) (res_none rfl) (fun w1 hw => ?_)
     exact ⟨ts, rfl, by rw [show n = m + 1 by omega]; exact ins_done (Upto.refl (by omega) (by omega) hp6) (by omega) (by omega) hk1 (by omega) hk3 (fun t t1 t2 => hi5 t (by omega) t2) ((Nat.eq_or_lt_of_le (show a ≤ k by omega)).elim (fun h => .inl h.symm) fun h => .inr (hi4 (k - 1) (by omega) (by omega))), Keep.mem hw⟩
  ·
   try simp only [bz0, bz1, bz2, bz3, bz4, bz5, bz6, bz7, bz8, bz9] at h4
   refine cw_skip ?_
   refine ex_then ?_
   refine cw_seq ?_
   obtain ⟨d, hd⟩ : ∃ d, d = (a + n) / 2 ^ 1 := ⟨_, rfl⟩
   refine cw_region ?_
   refine sq_r (ry_move rfl) ?_
   refine sq_r (ry_move rfl) ?_
   refine sq_r (ry_add rfl rfl (by omega)) ?_
   refine sq_r (ry_convn rfl (by simp only [nb]; omega)) ?_
   refine sq_r (Ry.to (v' := .int .u64 (((a + n) / 2 ^ 1 : Nat) : Int)) (ry_shr (p := (a + n)) rfl rfl (by simp only [nb]; omega) (by omega)) rfl) ?_
   refine sq_r (Ry.to (v' := .int .i64 ((d : Nat) : Int)) (ry_convn rfl (by simp only [nb]; omega)) (by rw [hd])) ?_
   refine sq_r (ry_assign rfl) ?_
   refine sq_nil ?_
   refine ex_then ?_
   refine cw_seq ?_
   refine cw_region ?_
   refine sq_r (ry_move rfl) ?_
   refine sq_r (ry_move rfl) ?_
   refine sq_r (ry_add rfl rfl (by omega)) ?_
   refine sq_r (ry_assign rfl) ?_
   refine sq_nil ?_
   refine ex_then ?_
   refine cw_seq ?_
   refine cw_region ?_
   refine sq_r (ry_assign rfl) ?_
   refine sq_r (ry_assign rfl) ?_
   refine sq_nil ?_
   refine ex_then ?_
   refine cw_cut (X := Nat × Nat) (fun zz => [(20, .int .i64 (zz.1 : Nat)), (21, .int .i64 (zz.2 : Nat)), (0, s.val), (1, .int .i64 (a : Nat)), (2, .int .i64 (m : Nat)), (3, .int .i64 (n : Nat)), (4, .func (.func 67) #[] #[]), (18, .int .i64 (d : Nat)), (19, .int .i64 ((d + m) : Nat))]) (fun zz => own chcells 20 s xs :: L) (fun zz => a ≤ zz.1 ∧ zz.1 ≤ zz.2 ∧ zz.2 ≤ m ∧ zz.2 ≤ d ∧ d + m ≤ zz.1 + n ∧ (zz.1 = a ∨ zz.1 + n = d + m) ∧ (zz.2 = m ∨ zz.2 = d)) ?_ ?_
   ·
    refine cw_seq ?_
    refine cw_region ?_
    refine sq_r (ry_move rfl) ?_
    refine sq_r (ry_move rfl) ?_
    refine sq_r (ry_int rfl rfl rfl) ?_
    refine sq_nil ?_
    refine ex_then ?_
    refine cw_cond rfl (fun h8 => ?_) (fun h8 => ?_)
    ·
     try simp only [bz0, bz1, bz2, bz3, bz4, bz5, bz6, bz7, bz8, bz9] at h8
     refine cw_seq ?_
     refine cw_region ?_
     refine sq_r (ry_move rfl) ?_
     refine sq_r (ry_move rfl) ?_
     refine sq_r (Ry.to (v' := .int .i64 ((d + m - n : Nat) : Int)) (ry_sub rfl rfl (by omega)) (by congr 1 <;> omega)) ?_
     refine sq_r (ry_assign rfl) ?_
     refine sq_nil ?_
     refine ex_then ?_
     refine cw_region ?_
     refine sq_r (ry_move rfl) ?_
     refine sq_r (ry_assign rfl) ?_
     refine sq_nil ?_
     exact ex_meet (d + m - n, d) ⟨by first | omega | (simp only []; omega), by first | omega | (simp only []; omega), by first | omega | (simp only []; omega), by first | omega | (simp only []; omega), by first | omega | (simp only []; omega), .inr (by first | omega | (simp only []; omega)), .inr rfl⟩ (Sub.cons rfl (Sub.cons rfl (Sub.cons rfl (Sub.cons rfl (Sub.cons rfl (Sub.cons rfl (Sub.cons rfl (Sub.cons rfl (Sub.cons rfl (Sub.nil _)))))))))) (fun w hw => Keep.mem hw)
    ·
     try simp only [bz0, bz1, bz2, bz3, bz4, bz5, bz6, bz7, bz8, bz9] at h8
     refine cw_seq ?_
     refine cw_region ?_
     refine sq_r (ry_move rfl) ?_
     refine sq_r (ry_assign rfl) ?_
     refine sq_nil ?_
     refine ex_then ?_
     refine cw_region ?_
     refine sq_r (ry_move rfl) ?_
     refine sq_r (ry_assign rfl) ?_
     refine sq_nil ?_
     exact ex_meet (a, m) ⟨by first | omega | (simp only []; omega), by first | omega | (simp only []; omega), by first | omega | (simp only []; omega), by first | omega | (simp only []; omega), by first | omega | (simp only []; omega), .inl rfl, .inl rfl⟩ (Sub.cons rfl (Sub.cons rfl (Sub.cons rfl (Sub.cons rfl (Sub.cons rfl (Sub.cons rfl (Sub.cons rfl (Sub.cons rfl (Sub.cons rfl (Sub.nil _)))))))))) (fun w hw => Keep.mem hw)
   ·
    rintro ⟨s0, r0⟩ ⟨hj1, hj2, hj3, hj4, hj5, hj6, hj7⟩
    dsimp only
    simp only at hj1 hj2 hj3 hj4 hj5 hj6 hj7
    refine cw_seq ?_
    refine cw_region ?_
    refine sq_r (ry_move rfl) ?_
    refine sq_r (Ry.to (v' := .int .i64 ((d + m - 1 : Nat) : Int)) (ry_sub rfl rfl (by omega)) (by congr 1 <;> omega)) ?_
    refine sq_r (ry_assign rfl) ?_
    refine sq_nil ?_
    refine ex_then ?_
    refine cw_seq ?_
    refine cw_block ?_
    refine cw_loop (X := Nat × Nat) (fun zz => [(20, .int .i64 (zz.1 : Nat)), (21, .int .i64 (zz.2 : Nat)), (0, s.val), (1, .int .i64 (a : Nat)), (2, .int .i64 (m : Nat)), (3, .int .i64 (n : Nat)), (4, .func (.func 67) #[] #[]), (18, .int .i64 (d : Nat)), (19, .int .i64 ((d + m) : Nat)), (22, .int .i64 ((d + m - 1) : Nat))]) (fun zz => own chcells 20 s xs :: L) (fun zz => s0 ≤ zz.1 ∧ zz.1 ≤ zz.2 ∧ zz.2 ≤ r0 ∧ (zz.1 = s0 ∨ rk rkC xs (zz.1 - 1) ≤ rk rkC xs (d + m - zz.1)) ∧ (zz.2 = r0 ∨ rk rkC xs (d + m - 1 - zz.2) < rk rkC xs zz.2)) (fun zz => zz.2 - zz.1) (s0, r0) ⟨by first | omega | (simp only []; omega), by first | omega | (simp only []; omega), by first | omega | (simp only []; omega), .inl rfl, .inl rfl⟩ (Sub.cons rfl (Sub.cons rfl (Sub.cons rfl (Sub.cons rfl (Sub.cons rfl (Sub.cons rfl (Sub.cons rfl (Sub.cons rfl (Sub.cons rfl (Sub.cons rfl (Sub.nil _))))))))))) (fun w hw => Keep.mem hw) ?_
    rintro ⟨s1, r⟩ ⟨hi1, hi2, hi3, hi4, hi5⟩
    dsimp only
    simp only at hi1 hi2 hi3 hi4 hi5
    refine cw_seq ?_
    refine cw_seq ?_
    refine cw_region ?_
    refine sq_r (ry_move rfl) ?_
    refine sq_r (ry_move rfl) ?_
    refine sq_r (ry_int rfl rfl rfl) ?_
    refine sq_nil ?_
    refine ex_then ?_
    refine cw_cond rfl (fun h9 => ?_) (fun h9 => ?_)
    ·
     try simp only [bz0, bz1, bz2, bz3, bz4, bz5, bz6, bz7, bz8, bz9] at h9
     refine cw_skip ?_
     refine ex_then ?_
     refine cw_block ?_
     refine cw_seq ?_
     refine cw_region ?_
     refine sq_r (ry_move rfl) ?_
     refine sq_r (ry_move rfl) ?_
     refine sq_r (ry_add rfl rfl (by omega)) ?_
     refine sq_r (ry_convn rfl (by simp only [nb]; omega)) ?_
     refine sq_r (Ry.to (v' := .int .u64 (((s1 + r) / 2 ^ 1 : Nat) : Int)) (ry_shr (p := (s1 + r)) rfl rfl (by simp only [nb]; omega) (by omega)) rfl) ?_
     refine sq_r (ry_convn rfl (by simp only [nb]; omega)) ?_
     refine sq_r (ry_assign rfl) ?_
     refine sq_nil ?_
     refine ex_then ?_
     refine cw_seq ?_
     refine cw_quiet (by kernel_rfl) (by kernel_rfl) ?_
     refine qt_r (ry_move rfl) ?_
     refine qt_r (ry_move rfl) ?_
     refine qt_r (ry_move rfl) ?_
     refine qt_r (ry_move rfl) ?_
     refine qt_r (Ry.to (v' := .int .i64 (((d + m - 1 - (s1 + r) / 2 ^ 1) : Nat) : Int)) (ry_sub rfl rfl (by omega)) (by congr 1 <;> omega)) ?_
     obtain ⟨e163, he163⟩ := get_some (xs := xs) (i := (d + m - 1 - (s1 + r) / 2 ^ 1)) (by omega)
     refine qt_r (ry_idxH rfl rfl (d + m - 1 - (s1 + r) / 2 ^ 1) rfl (by omega)) ?_
     refine qt_r (ry_elemH rfl (d + m - 1 - (s1 + r) / 2 ^ 1) he163 rfl) ?_
     refine qt_r (ry_move rfl) ?_
     refine qt_r (ry_move rfl) ?_
     obtain ⟨e167, he167⟩ := get_some (xs := xs) (i := ((s1 + r) / 2 ^ 1)) (by omega)
     refine qt_r (ry_idxH rfl rfl ((s1 + r) / 2 ^ 1) rfl (by omega)) ?_
     refine qt_r (ry_elemH rfl ((s1 + r) / 2 ^ 1) he167 rfl) ?_
     refine qt_y (yl_callV (vs := [.agg (chcells e163), .agg (chcells e167)]) (vs2 := [.agg (chcells e163), .agg (chcells e167)]) rfl rfl rfl trivial) ?_
     refine qt_r (ry_int rfl rfl rfl) ?_
     refine qt_r (ry_not rfl) ?_
     refine qt_nil ?_
     refine ex_then ?_
     refine cw_cond rfl (fun h10 => ?_) (fun h10 => ?_)
     ·
      try simp only [bz0, bz1, bz2, bz3, bz4, bz5, bz6, bz7, bz8, bz9] at h10
      rw [cmp_rk hp5 he163 he167] at h10
      refine cw_region ?_
      refine sq_r (ry_move rfl) ?_
      refine sq_r (ry_add rfl rfl (by omega)) ?_
      refine sq_r (ry_assign rfl) ?_
      refine sq_nil ?_
      refine ex_block ?_
      exact ex_again (x := (s1, r)) (((s1 + r) / 2 ^ 1) + 1, r) ⟨by first | omega | (simp only []; omega), by first | omega | (simp only []; omega), by first | omega | (simp only []; omega), .inr (by rw [Nat.add_sub_cancel, show d + m - (((s1 + r) / 2 ^ 1) + 1) = (d + m - 1 - (s1 + r) / 2 ^ 1) by first | omega | (simp only []; omega)]; exact Nat.le_of_not_lt h10), hi5⟩ (by simp only; omega) (Sub.cons rfl (Sub.cons rfl (Sub.cons rfl (Sub.cons rfl (Sub.cons rfl (Sub.cons rfl (Sub.cons rfl (Sub.cons rfl (Sub.cons rfl (Sub.cons rfl (Sub.nil _))))))))))) (fun w hw => Keep.mem hw)
     ·
      try simp only [bz0, bz1, bz2, bz3, bz4, bz5, bz6, bz7, bz8, bz9] at h10
      rw [cmp_rk hp5 he163 he167] at h10
      refine cw_region ?_
      refine sq_r (ry_move rfl) ?_
      refine sq_r (ry_assign rfl) ?_
      refine sq_nil ?_
      refine ex_block ?_
      exact ex_again (x := (s1, r)) (s1, ((s1 + r) / 2 ^ 1)) ⟨hi1, by first | omega | (simp only []; omega), by first | omega | (simp only []; omega), hi4, .inr h10⟩ (by simp only; omega) (Sub.cons rfl (Sub.cons rfl (Sub.cons rfl (Sub.cons rfl (Sub.cons rfl (Sub.cons rfl (Sub.cons rfl (Sub.cons rfl (Sub.cons rfl (Sub.cons rfl (Sub.nil _))))))))))) (fun w hw => Keep.mem hw)
    ·
     try simp only [bz0, bz1, bz2, bz3, bz4, bz5, bz6, bz7, bz8, bz9] at h9
     refine cw_exit ?_
     refine ex_pass_exit ?_
     refine ex_pass_exit ?_
     refine ex_block_hit ?_
     refine ex_then ?_
     refine cw_seq ?_
     obtain ⟨e, he⟩ : ∃ e, e = d + m - s1 := ⟨_, rfl⟩
     have f1 : a ≤ s1 := by omega
     have f2 : s1 ≤ m := by omega
     have f3 : m ≤ e := by omega
     have f4 : e ≤ n := by omega
     have f5 : s1 + (e - m) = d := by omega
     have k1 := sym_k1 hp6 hp7 f1 f2 f3 f4 hp3 (by
      rcases hi5 with h | h
      ·
       rcases hj7 with h' | h'
       ·
        left; omega
       ·
        right; left; omega
      ·
       right; right; rw [show e - 1 = d + m - 1 - r by omega, show s1 = r by omega]; exact h)
     have k2 := sym_k2 hp6 hp7 f1 f2 f3 f4 hp3 (by
      rcases hi4 with h | h
      ·
       rcases hj6 with h' | h'
       ·
        left; omega
       ·
        right; left; omega
      ·
       right; right; rw [he]; exact h)
     have lr := rot_length (xs := xs) f2 f3 (show e ≤ xs.length by omega)
     obtain ⟨g1, g2, g3, g4⟩ := rot_segs (xs := xs) f1 f2 f3 f4 hp3
     rw [f5] at g2 g3
     have hmr : MayC (rot xs s1 m e) := fun x hx => hp5 x (rot_mem f2 f3 (by omega) hx)
     have q1 : Srt rkC (seg (rot xs s1 m e) a s1) := by rw [g1]; exact srt_sub hp6 (by omega) (Nat.le_refl _) f2
     have q2 : Srt rkC (seg (rot xs s1 m e) s1 d) := by rw [g2]; exact srt_sub hp7 hp3 (Nat.le_refl _) f4
     have q3 : Srt rkC (seg (rot xs s1 m e) d e) := by rw [g3]; exact srt_sub hp6 (by omega) f1 (Nat.le_refl _)
     have q4 : Srt rkC (seg (rot xs s1 m e) e n) := by rw [g4]; exact srt_sub hp7 hp3 f3 (Nat.le_refl _)
     refine cw_region ?_
     refine sq_r (ry_move rfl) ?_
     refine sq_r (ry_move rfl) ?_
     refine sq_r (Ry.to (v' := .int .i64 ((e : Nat) : Int)) (ry_sub rfl rfl (by omega)) (by congr 1 <;> omega)) ?_
     refine sq_r (ry_assign rfl) ?_
     refine sq_nil ?_
     refine ex_then ?_
     refine cw_cut (X := Unit) (fun zz => [(0, s.val), (1, .int .i64 (a : Nat)), (3, .int .i64 (n : Nat)), (4, .func (.func 67) #[] #[]), (18, .int .i64 (d : Nat)), (20, .int .i64 (s1 : Nat)), (24, .int .i64 (e : Nat))]) (fun zz => own chcells 20 s (rot xs s1 m e) :: L) (fun zz => True) ?_ ?_
     ·
      refine cw_seq ?_
      refine cw_region ?_
      refine sq_r (ry_move rfl) ?_
      refine sq_r (ry_move rfl) ?_
      refine sq_r (ry_int rfl rfl rfl) ?_
      refine sq_r (ry_move rfl) ?_
      refine sq_gt rfl rfl rfl (fun hg => (Ry.yl (ry_move rfl))) ?_
      refine sq_gt rfl rfl rfl (fun hg => (Ry.yl (ry_move rfl))) ?_
      refine sq_gt rfl rfl rfl (fun hg => (Ry.yl (ry_int (ev_c hg rfl) (ev_c hg rfl) rfl))) ?_
      refine sq_r (ry_and rfl rfl rfl) ?_
      refine sq_nil ?_
      refine ex_then ?_
      refine cw_cond rfl (fun h11 => ?_) (fun h11 => ?_)
      ·
       try simp only [bz0, bz1, bz2, bz3, bz4, bz5, bz6, bz7, bz8, bz9] at h11
       refine cw_region ?_
       refine sq_r (ry_move rfl) ?_
       refine sq_r (ry_move rfl) ?_
       refine sq_r (ry_move rfl) ?_
       refine sq_r (ry_move rfl) ?_
       refine sq_r (ry_move rfl) ?_
       refine sq_callC rfl ⟨by omega, by omega, by omega, by omega⟩ fun x191 hp191 => ?_
       refine sq_nil ?_
       exact ex_meet () trivial (Sub.cons rfl (Sub.cons rfl (Sub.cons rfl (Sub.cons rfl (Sub.cons rfl (Sub.cons rfl (Sub.cons rfl (Sub.nil _)))))))) (fun w hw => by rw [hp191] at hw; exact Keep.mem hw)
      ·
       try simp only [bz0, bz1, bz2, bz3, bz4, bz5, bz6, bz7, bz8, bz9] at h11
       refine cw_skip ?_
       exact ex_meet () trivial (Sub.cons rfl (Sub.cons rfl (Sub.cons rfl (Sub.cons rfl (Sub.cons rfl (Sub.cons rfl (Sub.cons rfl (Sub.nil _)))))))) (fun w hw => by rw [rot_same f2 f3 (by omega) (by omega)]; exact Keep.mem hw)
     ·
      rintro ⟨⟩ hJ
      refine cw_cut (X := List Ch) (fun zz => [(0, s.val), (3, .int .i64 (n : Nat)), (4, .func (.func 67) #[] #[]), (18, .int .i64 (d : Nat)), (24, .int .i64 (e : Nat))]) (fun zz => own chcells 20 s zz :: L) (fun zz => Upto rkC (rot xs s1 m e) a d zz) ?_ ?_
      ·
       refine cw_seq ?_
       refine cw_region ?_
       refine sq_r (ry_move rfl) ?_
       refine sq_r (ry_move rfl) ?_
       refine sq_r (ry_int rfl rfl rfl) ?_
       refine sq_r (ry_move rfl) ?_
       refine sq_gt rfl rfl rfl (fun hg => (Ry.yl (ry_move rfl))) ?_
       refine sq_gt rfl rfl rfl (fun hg => (Ry.yl (ry_move rfl))) ?_
       refine sq_gt rfl rfl rfl (fun hg => (Ry.yl (ry_int (ev_c hg rfl) (ev_c hg rfl) rfl))) ?_
       refine sq_r (ry_and rfl rfl rfl) ?_
       refine sq_nil ?_
       refine ex_then ?_
       refine cw_cond rfl (fun h12 => ?_) (fun h12 => ?_)
       ·
        try simp only [bz0, bz1, bz2, bz3, bz4, bz5, bz6, bz7, bz8, bz9] at h12
        refine cw_region ?_
        refine sq_r (ry_move rfl) ?_
        refine sq_r (ry_move rfl) ?_
        refine sq_r (ry_move rfl) ?_
        refine sq_r (ry_move rfl) ?_
        refine sq_r (ry_move rfl) ?_
        refine sq_callC rfl ⟨⟨by omega, by omega, by omega, by omega, hmr, q1, q2⟩, by omega⟩ fun x205 hp205 => ?_
        refine sq_nil ?_
        exact ex_meet x205 hp205 (Sub.cons rfl (Sub.cons rfl (Sub.cons rfl (Sub.cons rfl (Sub.cons rfl (Sub.nil _)))))) (fun w hw => Keep.mem hw)
       ·
        try simp only [bz0, bz1, bz2, bz3, bz4, bz5, bz6, bz7, bz8, bz9] at h12
        refine cw_skip ?_
        exact ex_meet (rot xs s1 m e) (two_skip f1 (by first | omega | (simp only []; omega)) (by first | omega | (simp only []; omega)) (by first | omega | (simp only []; omega)) q1 q2) (Sub.cons rfl (Sub.cons rfl (Sub.cons rfl (Sub.cons rfl (Sub.cons rfl (Sub.nil _)))))) (fun w hw => Keep.mem hw)
      ·
       rintro ys hu
       have ly := hu.length (by omega) (by omega)
       have hmy : MayC ys := fun x hx => hmr x ((upto_same hu (by omega) (by omega)).1 hx)
       have q5 : Srt rkC (seg ys d e) := by rw [upto_behind hu (by omega) (Nat.le_refl _) (by omega) (by omega)]; exact q3
       have q6 : Srt rkC (seg ys e n) := by rw [upto_behind hu (by omega) (by omega) (by omega) (by omega)]; exact q4
       refine cw_seq ?_
       refine cw_region ?_
       refine sq_r (ry_move rfl) ?_
       refine sq_r (ry_move rfl) ?_
       refine sq_r (ry_int rfl rfl rfl) ?_
       refine sq_r (ry_move rfl) ?_
       refine sq_gt rfl rfl rfl (fun hg => (Ry.yl (ry_move rfl))) ?_
       refine sq_gt rfl rfl rfl (fun hg => (Ry.yl (ry_move rfl))) ?_
       refine sq_gt rfl rfl rfl (fun hg => (Ry.yl (ry_int (ev_c hg rfl) (ev_c hg rfl) rfl))) ?_
       refine sq_r (ry_and rfl rfl rfl) ?_
       refine sq_nil ?_
       refine ex_then ?_
       refine cw_cond rfl (fun h13 => ?_) (fun h13 => ?_)
       ·
        try simp only [bz0, bz1, bz2, bz3, bz4, bz5, bz6, bz7, bz8, bz9] at h13
        refine cw_region ?_
        refine sq_r (ry_move rfl) ?_
        refine sq_r (ry_move rfl) ?_
        refine sq_r (ry_move rfl) ?_
        refine sq_r (ry_move rfl) ?_
        refine sq_r (ry_move rfl) ?_
        refine sq_callC rfl ⟨⟨by omega, by omega, by omega, by omega, hmy, q5, q6⟩, by omega⟩ fun x219 hp219 => ?_
        refine sq_nil ?_
        refine ex_ret (.inr rfl) (res_none rfl) (fun w1 hw => ?_)
        exact ⟨x219, rfl, sym_done f1 f2 f3 f4 hp3 hp6 hp7 k1 k2 (by rw [f5]; exact hu) (by rw [f5]; exact hp219), Keep.mem hw⟩
       ·
        try simp only [bz0, bz1, bz2, bz3, bz4, bz5, bz6, bz7, bz8, bz9] at h13
        refine cw_skip ?_
        refine ex_ret (.inr rfl) (res_none rfl) (fun w1 hw => ?_)
        exact ⟨ys, rfl, sym_done f1 f2 f3 f4 hp3 hp6 hp7 k1 k2 (by rw [f5]; exact hu) (by rw [f5]; exact two_skip (by omega) (by omega) (by omega) (by omega) q5 q6), Keep.mem hw⟩
theorem symC_a (kk : Nat) : ∀ (w0 w : World) (L : List Ent) (s : Sv) (xs : List Ch) (a : Nat) (m : Nat) (n : Nat) (hw : Mem w0 (own chcells 20 s xs :: L) w) (hpre : a < m ∧ m < n ∧ n ≤ xs.length ∧ xs.length ≤ 1000000 ∧ MayC xs ∧ Srt rkC (seg xs a m) ∧ Srt rkC (seg xs m n)), n - a < kk → Calls Try.prog 101 #[s.val, .int .i64 (a : Nat), .int .i64 (m : Nat), .int .i64 (n : Nat), .func (.func 67) #[] #[]] w fun e w' => ∃ zz : List Ch, e = .returned (.tuple #[]) ∧ (Upto rkC xs a n zz) ∧ Mem w0 (own chcells 20 s zz :: L) w' := by
 induction kk with
 | zero => intros; omega
 | succ kk ih =>
  intro w0 w L s xs a m n hw hpre hk
  exact symC_s kk (by
   intro w0 L L2 i s xs a m n q d1
   exact ⟨fun hp w hw => ih w0 w L2 s xs a m n (mem_one q.h d1.h hw) hp.1 hp.2⟩) w0 w L s xs a m n hw hpre (by omega)
theorem symC_c (w0 w : World) (L : List Ent) (s : Sv) (xs : List Ch) (a : Nat) (m : Nat) (n : Nat) (hw : Mem w0 (own chcells 20 s xs :: L) w) (hpre : a < m ∧ m < n ∧ n ≤ xs.length ∧ xs.length ≤ 1000000 ∧ MayC xs ∧ Srt rkC (seg xs a m) ∧ Srt rkC (seg xs m n)) : Calls Try.prog 101 #[s.val, .int .i64 (a : Nat), .int .i64 (m : Nat), .int .i64 (n : Nat), .func (.func 67) #[] #[]] w fun e w' => ∃ zz : List Ch, e = .returned (.tuple #[]) ∧ (Upto rkC xs a n zz) ∧ Mem w0 (own chcells 20 s zz :: L) w' := symC_a (n - a + 1) w0 w L s xs a m n hw hpre (Nat.lt_succ_self _)
instance symC_i {w0 : World} {L L2 : List Ent} {i : Nat} {s : Sv} {xs : List Ch} {a : Nat} {m : Nat} {n : Nat} [q : Owns L s chcells 20 xs i] [d1 : DelI L i L2] : FnC Try.prog 101 w0 L [s.val, .int .i64 (a : Nat), .int .i64 (m : Nat), .int .i64 (n : Nat), .func (.func 67) #[] #[]] (List Ch) (fun zz => .tuple #[]) (fun zz => own chcells 20 s zz :: L2) (fun zz => Upto rkC xs a n zz) (a < m ∧ m < n ∧ n ≤ xs.length ∧ xs.length ≤ 1000000 ∧ MayC xs ∧ Srt rkC (seg xs a m) ∧ Srt rkC (seg xs m n)) := ⟨fun hp w hw => symC_c w0 w L2 s xs a m n (mem_one q.h d1.h hw) hp⟩

end Go.Proofs.Ytldkgicmfbofiaa

/- slices.SortStableFunc of changes: walked. -/
namespace Go.Proofs.Ytldkgicmfbofiaa
open Go.Eng Go.Kb
set_option maxRecDepth 20000 in
theorem stabC_c (w0 w : World) (L : List Ent) (s : Sv) (xs : List Ch) (n : Nat) (hw : Mem w0 (own chcells 20 s xs :: L) w) (hpre : n = xs.length ∧ xs.length ≤ 1000000 ∧ MayC xs) : Calls Try.prog 85 #[s.val, .int .i64 (n : Nat), .func (.func 67) #[] #[]] w fun e w' => ∃ zz : List Ch, e = .returned (.tuple #[]) ∧ (Upto rkC xs 0 n zz) ∧ Mem w0 (own chcells 20 s zz :: L) w' := by
 obtain ⟨hp1, hp2, hp3⟩ := hpre
 refine calls_in (args := [_, _, _]) Try.func85 rfl Try.ntmps85 rfl hw ?_
 change Cw _ _ _ _ _ [(0, s.val), (1, .int .i64 (n : Nat)), (2, .func (.func 67) #[] #[])] (own chcells 20 s xs :: L)
 refine cw_seq ?_
 refine cw_region ?_
 refine sq_r (ry_assign rfl) ?_
 refine sq_nil ?_
 refine ex_then ?_
 refine cw_seq ?_
 refine cw_region ?_
 refine sq_r (ry_move rfl) ?_
 refine sq_r (ry_assign rfl) ?_
 refine sq_r (ry_assign rfl) ?_
 refine sq_nil ?_
 refine ex_then ?_
 refine cw_seq ?_
 refine cw_block ?_
 refine cw_loop (X := Nat × Nat × List Ch) (fun zz => [(7, .int .i64 (zz.1 : Nat)), (8, .int .i64 (zz.2.1 : Nat)), (0, s.val), (1, .int .i64 (n : Nat)), (2, .func (.func 67) #[] #[]), (6, .int .i64 20)]) (fun zz => own chcells 20 s zz.2.2 :: L) (fun zz => zz.2.1 = zz.1 + 20 ∧ zz.1 ≤ n ∧ zz.1 % 20 = 0 ∧ zz.2.2.length = xs.length ∧ Bk rkC xs zz.2.2 20 0 zz.1 ∧ (∀ t, zz.1 ≤ t → zz.2.2[t]? = xs[t]?) ∧ MayC zz.2.2) (fun zz => n - zz.1) (0, 20, xs) ⟨rfl, Nat.zero_le _, rfl, rfl, fun s _ h => absurd h (Nat.not_lt_zero _), fun _ _ => rfl, hp3⟩ (Sub.cons rfl (Sub.cons rfl (Sub.cons rfl (Sub.cons rfl (Sub.cons rfl (Sub.cons rfl (Sub.nil _))))))) (fun w hw => Keep.mem hw) ?_
 rintro ⟨a, b, ys⟩ ⟨hi1, hi2, hi3, hi4, hi5, hi6, hi7⟩
 dsimp only
 simp only at hi1 hi2 hi3 hi4 hi5 hi6 hi7
 refine cw_seq ?_
 refine cw_seq ?_
 refine cw_region ?_
 refine sq_r (ry_move rfl) ?_
 refine sq_r (ry_move rfl) ?_
 refine sq_r (ry_int rfl rfl rfl) ?_
 refine sq_nil ?_
 refine ex_then ?_
 refine cw_cond rfl (fun h0 => ?_) (fun h0 => ?_)
 ·
  try simp only [bz0, bz1, bz2, bz3, bz4, bz5, bz6, bz7, bz8, bz9] at h0
  refine cw_skip ?_
  refine ex_then ?_
  refine cw_block ?_
  refine cw_seq ?_
  refine cw_region ?_
  refine sq_r (ry_move rfl) ?_
  refine sq_r (ry_move rfl) ?_
  refine sq_r (ry_move rfl) ?_
  refine sq_r (ry_move rfl) ?_
  refine sq_callC rfl ⟨by omega, by omega, by omega, hi7⟩ fun x18 hp18 => ?_
  refine sq_nil ?_
  refine ex_then ?_
  refine cw_seq ?_
  refine cw_region ?_
  refine sq_r (ry_move rfl) ?_
  refine sq_r (ry_assign rfl) ?_
  refine sq_nil ?_
  refine ex_then ?_
  refine cw_region ?_
  refine sq_r (ry_move rfl) ?_
  refine sq_r (ry_move rfl) ?_
  refine sq_r (ry_add rfl rfl (by omega)) ?_
  refine sq_r (ry_assign rfl) ?_
  refine sq_nil ?_
  refine ex_block ?_
  obtain ⟨hb1, hb2, hb3⟩ := bk_ins hi4 hi5 hi3 (show a ≤ b by omega) (by omega) hi6 hp18
  exact ex_again (x := (a, b, ys)) (b, b + 20, x18) ⟨rfl, by first | omega | (simp only []; omega), by first | omega | (simp only []; omega), hb1, hb2, hb3, fun x hx => hi7 x ((upto_same hp18 (by first | omega | (simp only []; omega)) (by first | omega | (simp only []; omega))).1 hx)⟩ (by simp only; omega) (Sub.cons rfl (Sub.cons rfl (Sub.cons rfl (Sub.cons rfl (Sub.cons rfl (Sub.cons rfl (Sub.nil _))))))) (fun w hw => Keep.mem hw)
 ·
  try simp only [bz0, bz1, bz2, bz3, bz4, bz5, bz6, bz7, bz8, bz9] at h0
  refine cw_exit ?_
  refine ex_pass_exit ?_
  refine ex_pass_exit ?_
  refine ex_block_hit ?_
  refine ex_then ?_
  refine cw_seq ?_
  refine cw_region ?_
  refine sq_r (ry_move rfl) ?_
  refine sq_r (ry_move rfl) ?_
  refine sq_r (ry_move rfl) ?_
  refine sq_r (ry_move rfl) ?_
  refine sq_callC rfl ⟨by omega, by omega, by omega, hi7⟩ fun x27 hp27 => ?_
  refine sq_nil ?_
  refine ex_then ?_
  refine cw_block ?_
  obtain ⟨hb1, hb2, hb3⟩ := bk_ins hi4 hi5 hi3 (show a ≤ n by omega) (by omega) hi6 hp27
  refine cw_loop (X := Nat × List Ch) (fun zz => [(6, .int .i64 (zz.1 : Nat)), (0, s.val), (1, .int .i64 (n : Nat)), (2, .func (.func 67) #[] #[])]) (fun zz => own chcells 20 s zz.2 :: L) (fun zz => 0 < zz.1 ∧ zz.1 ≤ 2 * n + 20 ∧ zz.2.length = xs.length ∧ Bk rkC xs zz.2 zz.1 0 xs.length ∧ MayC zz.2) (fun zz => n - zz.1) (20, x27) ⟨by first | omega | (simp only []; omega), by first | omega | (simp only []; omega), hb1, by rw [← hp1]; exact hb2, fun x hx => hi7 x ((upto_same hp27 (by first | omega | (simp only []; omega)) (by first | omega | (simp only []; omega))).1 hx)⟩ (Sub.cons rfl (Sub.cons rfl (Sub.cons rfl (Sub.cons rfl (Sub.nil _))))) (fun w hw => Keep.mem hw) ?_
  rintro ⟨c, zs⟩ ⟨hc1, hc2, hc3, hc4, hc5⟩
  dsimp only
  simp only at hc1 hc2 hc3 hc4 hc5
  refine cw_seq ?_
  refine cw_seq ?_
  refine cw_region ?_
  refine sq_r (ry_move rfl) ?_
  refine sq_r (ry_move rfl) ?_
  refine sq_r (ry_int rfl rfl rfl) ?_
  refine sq_nil ?_
  refine ex_then ?_
  refine cw_cond rfl (fun h1 => ?_) (fun h1 => ?_)
  ·
   try simp only [bz0, bz1, bz2, bz3, bz4, bz5, bz6, bz7, bz8, bz9] at h1
   refine cw_skip ?_
   refine ex_then ?_
   refine cw_block ?_
   refine cw_seq ?_
   refine cw_region ?_
   refine sq_r (ry_move rfl) ?_
   refine sq_r (ry_mul rfl rfl (by omega)) ?_
   refine sq_r (ry_assign rfl) ?_
   refine sq_r (ry_assign rfl) ?_
   refine sq_nil ?_
   refine ex_then ?_
   refine cw_seq ?_
   refine cw_block ?_
   refine cw_loop (X := Nat × Nat × List Ch) (fun zz => [(7, .int .i64 (zz.1 : Nat)), (8, .int .i64 (zz.2.1 : Nat)), (0, s.val), (1, .int .i64 (n : Nat)), (2, .func (.func 67) #[] #[]), (6, .int .i64 (c : Nat))]) (fun zz => own chcells 20 s zz.2.2 :: L) (fun zz => zz.2.1 = zz.1 + 2 * c ∧ zz.1 ≤ n ∧ zz.1 % (2 * c) = 0 ∧ zz.2.2.length = xs.length ∧ Bk rkC xs zz.2.2 (2 * c) 0 zz.1 ∧ Bk rkC xs zz.2.2 c zz.1 xs.length ∧ MayC zz.2.2) (fun zz => n - zz.1) (0, 2 * c, zs) ⟨by first | omega | (simp only []; omega), Nat.zero_le _, Nat.zero_mod _, hc3, fun s _ h => absurd h (Nat.not_lt_zero _), hc4, hc5⟩ (Sub.cons rfl (Sub.cons rfl (Sub.cons rfl (Sub.cons rfl (Sub.cons rfl (Sub.cons rfl (Sub.nil _))))))) (fun w hw => Keep.mem hw) ?_
   rintro ⟨a, b, ys⟩ ⟨hd1, hd2, hd3, hd4, hd5, hd6, hd7⟩
   dsimp only
   simp only at hd1 hd2 hd3 hd4 hd5 hd6 hd7
   refine cw_seq ?_
   refine cw_seq ?_
   refine cw_region ?_
   refine sq_r (ry_move rfl) ?_
   refine sq_r (ry_move rfl) ?_
   refine sq_r (ry_int rfl rfl rfl) ?_
   refine sq_nil ?_
   refine ex_then ?_
   refine cw_cond rfl (fun h2 => ?_) (fun h2 => ?_)
   ·
    try simp only [bz0, bz1, bz2, bz3, bz4, bz5, bz6, bz7, bz8, bz9] at h2
    refine cw_skip ?_
    refine ex_then ?_
    refine cw_block ?_
    refine cw_seq ?_
    refine cw_region ?_
    refine sq_r (ry_move rfl) ?_
    refine sq_r (ry_move rfl) ?_
    refine sq_r (ry_move rfl) ?_
    refine sq_r (ry_move rfl) ?_
    refine sq_r (Ry.to (v' := .int .i64 ((a + c : Nat) : Int)) (ry_add rfl rfl (by omega)) (by congr 1 <;> omega)) ?_
    refine sq_r (ry_move rfl) ?_
    refine sq_r (ry_move rfl) ?_
    refine sq_callC rfl ⟨by omega, by omega, by omega, by omega, hd7, (bk_srt hd4 hd6 (mod_half hd3) (show a + c < xs.length by omega) (show b = min (a + c + c) xs.length by omega)).1, (bk_srt hd4 hd6 (mod_half hd3) (show a + c < xs.length by omega) (show b = min (a + c + c) xs.length by omega)).2⟩ fun x43 hp43 => ?_
    refine sq_nil ?_
    refine ex_then ?_
    refine cw_seq ?_
    refine cw_region ?_
    refine sq_r (ry_move rfl) ?_
    refine sq_r (ry_assign rfl) ?_
    refine sq_nil ?_
    refine ex_then ?_
    refine cw_region ?_
    refine sq_r (ry_move rfl) ?_
    refine sq_r (ry_move rfl) ?_
    refine sq_r (ry_mul rfl rfl (by omega)) ?_
    refine sq_r (ry_add rfl rfl (by omega)) ?_
    refine sq_r (ry_assign rfl) ?_
    refine sq_nil ?_
    refine ex_block ?_
    obtain ⟨hb1, hb2, hb3⟩ := bk_merge hd4 hd5 hd6 hd3 hc1 (by omega) (by omega) hp43
    exact ex_again (x := (a, b, ys)) (b, b + 2 * c, x43) ⟨rfl, by first | omega | (simp only []; omega), by rw [hd1, Nat.add_mod_right]; exact hd3, hb1, hb2, hb3, fun x hx => hd7 x ((upto_same hp43 (by first | omega | (simp only []; omega)) (by first | omega | (simp only []; omega))).1 hx)⟩ (by simp only; omega) (Sub.cons rfl (Sub.cons rfl (Sub.cons rfl (Sub.cons rfl (Sub.cons rfl (Sub.cons rfl (Sub.nil _))))))) (fun w hw => Keep.mem hw)
   ·
    try simp only [bz0, bz1, bz2, bz3, bz4, bz5, bz6, bz7, bz8, bz9] at h2
    refine cw_exit ?_
    refine ex_pass_exit ?_
    refine ex_pass_exit ?_
    refine ex_block_hit ?_
    refine ex_then ?_
    refine cw_seq ?_
    refine cw_seq ?_
    refine cw_region ?_
    refine sq_r (ry_move rfl) ?_
    refine sq_r (ry_move rfl) ?_
    refine sq_r (Ry.to (v' := .int .i64 ((a + c : Nat) : Int)) (ry_add rfl rfl (by omega)) (by congr 1 <;> omega)) ?_
    refine sq_r (ry_assign rfl) ?_
    refine sq_nil ?_
    refine ex_then ?_
    refine cw_seq ?_
    refine cw_region ?_
    refine sq_r (ry_move rfl) ?_
    refine sq_r (ry_move rfl) ?_
    refine sq_r (ry_int rfl rfl rfl) ?_
    refine sq_nil ?_
    refine ex_then ?_
    refine cw_cond rfl (fun h3 => ?_) (fun h3 => ?_)
    ·
     try simp only [bz0, bz1, bz2, bz3, bz4, bz5, bz6, bz7, bz8, bz9] at h3
     refine cw_region ?_
     refine sq_r (ry_move rfl) ?_
     refine sq_r (ry_move rfl) ?_
     refine sq_r (ry_move rfl) ?_
     refine sq_r (ry_move rfl) ?_
     refine sq_r (ry_move rfl) ?_
     refine sq_callC rfl ⟨by omega, by omega, by omega, by omega, hd7, (bk_srt hd4 hd6 (mod_half hd3) (show a + c < xs.length by omega) (show n = min (a + c + c) xs.length by omega)).1, (bk_srt hd4 hd6 (mod_half hd3) (show a + c < xs.length by omega) (show n = min (a + c + c) xs.length by omega)).2⟩ fun x60 hp60 => ?_
     refine sq_nil ?_
     refine ex_then ?_
     refine cw_region ?_
     refine sq_r (ry_move rfl) ?_
     refine sq_r (ry_mul rfl rfl (by omega)) ?_
     refine sq_r (ry_assign rfl) ?_
     refine sq_nil ?_
     refine ex_block ?_
     obtain ⟨hb1, hb2, hb3⟩ := bk_merge hd4 hd5 hd6 hd3 hc1 (by omega) (by omega) hp60
     exact ex_again (x := (c, zs)) (c * 2, x60) ⟨by first | omega | (simp only []; omega), by first | omega | (simp only []; omega), hb1, by rw [Nat.mul_comm c 2, ← hp1]; exact hb2, fun x hx => hd7 x ((upto_same hp60 (by first | omega | (simp only []; omega)) (by first | omega | (simp only []; omega))).1 hx)⟩ (by simp only; omega) (Sub.cons rfl (Sub.cons rfl (Sub.cons rfl (Sub.cons rfl (Sub.nil _))))) (fun w hw => Keep.mem hw)
    ·
     try simp only [bz0, bz1, bz2, bz3, bz4, bz5, bz6, bz7, bz8, bz9] at h3
     refine cw_skip ?_
     refine ex_then ?_
     refine cw_region ?_
     refine sq_r (ry_move rfl) ?_
     refine sq_r (ry_mul rfl rfl (by omega)) ?_
     refine sq_r (ry_assign rfl) ?_
     refine sq_nil ?_
     refine ex_block ?_
     exact ex_again (x := (c, zs)) (c * 2, ys) ⟨by first | omega | (simp only []; omega), by first | omega | (simp only []; omega), hd4, by rw [Nat.mul_comm c 2]; exact bk_last hd5 hd6 hd3 (by first | omega | (simp only []; omega)), hd7⟩ (by simp only; omega) (Sub.cons rfl (Sub.cons rfl (Sub.cons rfl (Sub.cons rfl (Sub.nil _))))) (fun w hw => Keep.mem hw)
  ·
   try simp only [bz0, bz1, bz2, bz3, bz4, bz5, bz6, bz7, bz8, bz9] at h1
   refine cw_exit ?_
   refine ex_pass_exit ?_
   refine ex_pass_exit ?_
   refine ex_block_hit ?_
   refine ex_ret (.inr rfl) (res_none rfl) (fun w1 hw => ?_)
   exact ⟨zs, rfl, by rw [hp1]; exact bk_done hc3 hc4 (by omega), Keep.mem hw⟩
instance stabC_i {w0 : World} {L L2 : List Ent} {i : Nat} {s : Sv} {xs : List Ch} {n : Nat} [q : Owns L s chcells 20 xs i] [d1 : DelI L i L2] : FnC Try.prog 85 w0 L [s.val, .int .i64 (n : Nat), .func (.func 67) #[] #[]] (List Ch) (fun zz => .tuple #[]) (fun zz => own chcells 20 s zz :: L2) (fun zz => Upto rkC xs 0 n zz) (n = xs.length ∧ xs.length ≤ 1000000 ∧ MayC xs) := ⟨fun hp w hw => stabC_c w0 w L2 s xs n (mem_one q.h d1.h hw) hp⟩
set_option maxRecDepth 20000 in
theorem sortC_c (w0 w : World) (L : List Ent) (s : Sv) (xs : List Ch)  (hw : Mem w0 (own chcells 20 s xs :: L) w) (hpre : xs.length ≤ 1000000 ∧ MayC xs) : Calls Try.prog 66 #[s.val, .func (.func 67) #[] #[]] w fun e w' => ∃ zz : List Ch, e = .returned (.tuple #[]) ∧ (Stb rkC xs zz) ∧ Mem w0 (own chcells 20 s zz :: L) w' := by
 obtain ⟨hp1, hp2⟩ := hpre
 refine calls_in (args := [_, _]) Try.func66 rfl Try.ntmps66 rfl hw ?_
 change Cw _ _ _ _ _ [(0, s.val), (1, .func (.func 67) #[] #[])] (own chcells 20 s xs :: L)
 refine cw_region ?_
 refine sq_r (ry_move rfl) ?_
 refine sq_r (ry_move rfl) ?_
 refine sq_r (ry_lenH rfl) ?_
 refine sq_r (ry_move rfl) ?_
 refine sq_callC rfl ⟨rfl, hp1, hp2⟩ fun x8 hp8 => ?_
 refine sq_nil ?_
 refine ex_ret (.inr rfl) (res_none rfl) (fun w1 hw => ?_)
 exact ⟨x8, rfl, upto_stb hp8, Keep.mem hw⟩
instance sortC_i {w0 : World} {L L2 : List Ent} {i : Nat} {s : Sv} {xs : List Ch}  [q : Owns L s chcells 20 xs i] [d1 : DelI L i L2] : FnC Try.prog 66 w0 L [s.val, .func (.func 67) #[] #[]] (List Ch) (fun zz => .tuple #[]) (fun zz => own chcells 20 s zz :: L2) (fun zz => Stb rkC xs zz) (xs.length ≤ 1000000 ∧ MayC xs) := ⟨fun hp w hw => sortC_c w0 w L2 s xs  (mem_one q.h d1.h hw) hp⟩

end Go.Proofs.Ytldkgicmfbofiaa

