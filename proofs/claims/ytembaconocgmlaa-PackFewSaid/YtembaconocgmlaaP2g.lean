/- Bodies of a table: walked. -/
import Derived.Test.YtembaconocgmlaaP2f
set_option linter.unusedSimpArgs false
set_option linter.unusedVariables false
namespace Go.Proofs.Ytembaconocgmlaa
open Go.Eng Go.Kb
set_option maxRecDepth 20000 in
theorem pbodies_c (w : World) (t : Sv) (ts : List Rt) (ids : Int) (room : Int) (ht : Lies rcells 19 (hp w) t ts) : Calls Try.prog 45 #[t.val, .int .i64 ids, .int .i64 room] w fun e w' => ∃ zz : Sl (Sl UInt8), e = .returned (.tuple #[zz.sv.val, .int .i64 (bodiesE ts ids room)]) ∧ (lx zz = bodiesV ts ids room) ∧ Mem w [Deep.ent zz] w' := by
  have ght : Gv w t rcells 19 ts := ⟨ht⟩
  refine calls_of (args := [_, _, _]) Try.func45 rfl Try.ntmps45 rfl ?_
  change Cw _ _ _ _ _ [(0, t.val), (1, .int .i64 ids), (2, .int .i64 room)] []
  refine cw_seq ?_
  refine cw_region ?_
  refine sq_r (ry_assign rfl) ?_
  refine sq_r (ry_assign rfl) ?_
  refine sq_nil ?_
  refine ex_then ?_
  refine cw_seq ?_
  refine cw_region ?_
  refine sq_r (ry_move rfl) ?_
  refine sq_r (ry_move rfl) ?_
  refine sq_y (yl_callC rfl trivial) ?_
  refine sq_r (ry_assign rfl) ?_
  refine sq_nil ?_
  refine ex_then ?_
  refine cw_seq ?_
  refine cw_seq ?_
  refine cw_region ?_
  refine sq_r (ry_move rfl) ?_
  refine sq_r (ry_int rfl rfl rfl) ?_
  refine sq_r (ry_move rfl) ?_
  refine sq_gf rfl rfl rfl (fun hg => (Ry.yl (ry_move rfl))) ?_
  refine sq_gf rfl rfl rfl (fun hg => yl_callC (evl_cons (ev_c hg rfl) evl_nil) trivial) ?_
  refine sq_gf rfl rfl rfl (fun hg => (Ry.yl (ry_not (ev_c hg rfl)))) ?_
  refine sq_r (ry_or rfl rfl rfl) ?_
  refine sq_nil ?_
  refine ex_then ?_
  refine cw_cond rfl (fun h0 => ?_) (fun h0 => ?_)
  · try simp only [Bool.and_eq_true, Bool.or_eq_true, Bool.and_eq_false_iff, Bool.or_eq_false_iff, Bool.not_eq_true', Bool.not_eq_false', decide_eq_true_eq, decide_eq_false_iff_not, Bool.not_eq_true, Bool.not_eq_false] at h0
    refine cw_seq ?_
    refine cw_region ?_
    refine sq_r (ry_assign rfl) ?_
    refine sq_r (ry_assign rfl) ?_
    refine sq_nil ?_
    refine ex_then ?_
    refine cw_ret ?_
    refine ex_pass_ret ?_
    refine ex_ret (.inl rfl) (res_2 rfl (rv_tmp rfl) (rv_tmp rfl)) (fun w1 hw => ?_)
    exact ⟨⟨Sv.none, []⟩, by rw [(bodiesE_1 h0).1]; rfl, (bodiesE_1 h0).2.symm, Mem.nilEnt (enc := scells) (c := 1) (Keep.mem hw)⟩
  · try simp only [Bool.and_eq_true, Bool.or_eq_true, Bool.and_eq_false_iff, Bool.or_eq_false_iff, Bool.not_eq_true', Bool.not_eq_false', decide_eq_true_eq, decide_eq_false_iff_not, Bool.not_eq_true, Bool.not_eq_false] at h0
    
    obtain ⟨h0a, h0b⟩ := h0
    have hm := most_pos h0a
    obtain ⟨k, hk⟩ : ∃ k : Nat, ids = k := ⟨ids.toNat, by omega⟩
    obtain ⟨n, hn⟩ : ∃ n : Nat, room / 20 = n := ⟨(room / 20).toNat, by omega⟩
    have hkn : ids * (room / 20) = ((k * n : Nat) : Int) := by rw [hk, hn, Int.natCast_mul]
    have ek : ids.toNat = k := by omega
    have en : (room / 20).toNat = n := by omega
    refine cw_skip ?_
    refine ex_then ?_
    refine cw_seq ?_
    refine cw_seq ?_
    refine cw_region ?_
    refine sq_r (ry_move rfl) ?_
    refine sq_r (ry_lenH rfl) ?_
    refine sq_r (ry_move rfl) ?_
    refine sq_r (ry_int rfl rfl rfl) ?_
    refine sq_nil ?_
    refine ex_then ?_
    refine cw_cond rfl (fun h1 => ?_) (fun h1 => ?_)
    · try simp only [Bool.and_eq_true, Bool.or_eq_true, Bool.and_eq_false_iff, Bool.or_eq_false_iff, Bool.not_eq_true', Bool.not_eq_false', decide_eq_true_eq, decide_eq_false_iff_not, Bool.not_eq_true, Bool.not_eq_false] at h1
      refine cw_seq ?_
      refine cw_region ?_
      refine sq_r (ry_assign rfl) ?_
      refine sq_r (ry_assign rfl) ?_
      refine sq_nil ?_
      refine ex_then ?_
      refine cw_ret ?_
      refine ex_pass_ret ?_
      refine ex_ret (.inl rfl) (res_2 rfl (rv_tmp rfl) (rv_tmp rfl)) (fun w1 hw => ?_)
      exact ⟨⟨Sv.none, []⟩, by rw [(bodiesE_5 h0a h0b h1).1]; rfl, (bodiesE_5 h0a h0b h1).2.symm, Mem.nilEnt (enc := scells) (c := 1) (Keep.mem hw)⟩
    · try simp only [Bool.and_eq_true, Bool.or_eq_true, Bool.and_eq_false_iff, Bool.or_eq_false_iff, Bool.not_eq_true', Bool.not_eq_false', decide_eq_true_eq, decide_eq_false_iff_not, Bool.not_eq_true, Bool.not_eq_false] at h1
      have hE := bodiesE_0 h0a h0b h1
      rw [ek, en] at hE
      have htk : ts.length ≤ k * n := by omega
      have hl := ht.bd
      refine cw_skip ?_
      refine ex_then ?_
      refine cw_seq ?_
      refine cw_region ?_
      refine sq_r (ry_move rfl) ?_
      refine sq_makeD (τ := UInt8) (n := k) (cap := k) rfl rfl (by omega) (by omega) (by omega) (by omega) (by omega) fun x28 hx28 => ?_
      refine sq_r (ry_assign rfl) ?_
      refine sq_nil ?_
      refine ex_then ?_
      refine cw_seq ?_
      refine cw_seq ?_
      refine cw_region ?_
      refine sq_r (ry_move rfl) ?_
      refine sq_r (ry_lenH rfl) ?_
      refine sq_r (ry_move rfl) ?_
      refine sq_nil ?_
      refine ex_then ?_
      refine cw_block ?_
      refine cw_loop (X := Nat × Sl (Sl UInt8)) (fun zz => [(31, .int .i64 (zz.1 : Nat)), (9, zz.2.sv.val), (2, .int .i64 room), (29, t.val), (30, .int .i64 (ts.length : Nat))]) (fun zz => [Deep.ent zz.2]) (fun zz => zz.1 ≤ ts.length ∧ lx zz.2 = bodiesOf (ts.take zz.1) k n) (fun zz => ts.length - zz.1) (0, x28) ⟨by first | omega | (simp only []; omega), by rw [bodiesOf_zero]; show List.map _ _ = _; rw [hx28]; simp⟩ (Sub.cons rfl (Sub.cons rfl (Sub.cons rfl (Sub.cons rfl (Sub.cons rfl (Sub.nil _)))))) (fun w hw => Keep.mem hw) ?_
      rintro ⟨i, a⟩ ⟨hi1, hi2⟩
      dsimp only
      simp only at hi1 hi2
      refine cw_seq ?_
      refine cw_region ?_
      refine sq_r (ry_int rfl rfl rfl) ?_
      refine sq_nil ?_
      refine ex_then ?_
      refine cw_seq ?_
      refine cw_cond rfl (fun h2 => ?_) (fun h2 => ?_)
      · try simp only [Bool.and_eq_true, Bool.or_eq_true, Bool.and_eq_false_iff, Bool.or_eq_false_iff, Bool.not_eq_true', Bool.not_eq_false', decide_eq_true_eq, decide_eq_false_iff_not, Bool.not_eq_true, Bool.not_eq_false] at h2
        refine cw_skip ?_
        refine ex_then ?_
        refine cw_seq ?_
        refine cw_block ?_
        refine cw_seq ?_
        refine cw_region ?_
        refine sq_r (ry_move rfl) ?_
        obtain ⟨e34, he34⟩ := get_some (xs := ts) (i := i) (by omega)
        refine sq_r (ry_idxH rfl rfl i rfl (by omega)) ?_
        refine sq_r (ry_elemH rfl i he34 rfl) ?_
        refine sq_allocA fun b11 => ?_
        refine sq_r (ry_assign rfl) ?_
        refine sq_storeW rfl rfl ?_
        refine sq_nil ?_
        refine ex_then ?_
        refine cw_seq ?_
        refine cw_region ?_
        refine sq_r (ry_move rfl) ?_
        refine sq_r (ry_move rfl) ?_
        refine sq_r (ry_quo rfl rfl (by omega) (by omega)) ?_
        refine sq_r (ry_quo rfl rfl (by omega) (by omega)) ?_
        refine sq_r (ry_assign rfl) ?_
        refine sq_nil ?_
        refine ex_then ?_
        have hlt : i / n < k := Nat.div_lt_of_lt_mul (by rw [Nat.mul_comm]; omega)
        have hlt2 : i / n < a.xs.length := by rw [← lx_length, hi2, bodiesOf_length]; exact hlt
        obtain ⟨x, hx⟩ := get_some (xs := a.xs) (i := i / n) hlt2
        have ex : (lx a)[i / n]? = some x.xs := by simp [lx, hx]
        have e12 : ((i : Nat) : Int) / (room / 20) = ((i / n : Nat) : Int) := by rw [hn]; exact (Int.natCast_ediv i n).symm
        have hxl : x.xs.length ≤ 240 := by
          rw [hi2, bodiesOf, List.getElem?_map] at ex
          obtain ⟨j, _, hj⟩ := Option.map_eq_some_iff.1 ex
          have := bodyAt_le (ts.take i) n j
          rw [hj] at this; omega
        refine cw_mem (own scells 1 a.sv a.xs :: own benc 1 x.sv x.xs :: blk b11 (rcells e34) 82 :: (a.xs.eraseIdx (i / n)).map Deep.ent) (fun w hw => (Tr.pick1 (B := [blk b11 (rcells e34) 82]) hx).mem hw) ?_
        refine cw_tailq 9 [7] [own scells 1 a.sv a.xs, blk b11 (rcells e34) 82] (fun w hw => Keep.mem hw) (by kernel_rfl) (by kernel_rfl) ?_
        simp only [List.take_succ_cons, List.take_zero]
        refine qt_r (ry_move rfl) ?_
        refine qt_r (ry_move rfl) ?_
        refine qt_r (ry_move rfl) ?_
        refine qt_r (ry_move rfl) ?_
        refine qt_r (ry_idxH rfl rfl (i / n) e12 hlt2) ?_
        refine qt_r (ry_elemcH (j := 0) rfl (i / n) hx rfl (by decide)) ?_
        have mb45 : Mb x _ := ⟨List.mem_of_getElem? hx⟩
        refine qt_r (ry_whole rfl) ?_
        refine qt_skip ?_
        refine qt_r (ry_idxH rfl rfl (i / n) e12 hlt2) ?_
        refine qt_end ?_ (fun _ hw => Keep.mem hw)
        refine fr_callC rfl rfl (by omega) (fun _ w hw => Keep.mem hw) fun x47 hp47 => ?_
        refine fr_nil ?_
        simp only [List.drop_succ_cons, List.drop_zero]
        refine sq_storeSv (k := i / n) ⟨x47, x.xs ++ rbytes e34⟩ (by kernel_rfl) rfl rfl rfl hx ?_
        refine sq_nil ?_
        refine ex_block ?_
        refine ex_then ?_
        refine cw_region ?_
        refine sq_r (ry_add rfl rfl (by omega)) ?_
        refine sq_r (ry_move rfl) ?_
        refine sq_nil ?_
        exact ex_again (x := (i, a)) (i + 1, ⟨a.sv, a.xs.set (i / n) ⟨x47, x.xs ++ rbytes e34⟩⟩) ⟨by first | omega | (simp only []; omega), by rw [lx_set, bodiesOf_take (by first | omega | (simp only []; omega)) he34 (by rw [← hi2]; exact ex), ← hi2]; rfl⟩ (by first | omega | (simp only []; omega)) (Sub.cons rfl (Sub.cons rfl (Sub.cons rfl (Sub.cons rfl (Sub.cons rfl (Sub.nil _)))))) (fun w hw => Keep.mem ((Tr.lay1 (B := [blk b11 (rcells e34) 82]) (enc := benc) (c := 1) (by rw [← lx_length, hi2, bodiesOf_length]; exact hlt)).mem hw))
      · try simp only [Bool.and_eq_true, Bool.or_eq_true, Bool.and_eq_false_iff, Bool.or_eq_false_iff, Bool.not_eq_true', Bool.not_eq_false', decide_eq_true_eq, decide_eq_false_iff_not, Bool.not_eq_true, Bool.not_eq_false] at h2
        refine cw_exit ?_
        refine ex_pass_exit ?_
        refine ex_pass_exit ?_
        refine ex_block_hit ?_
        refine ex_then ?_
        refine cw_seq ?_
        refine cw_region ?_
        refine sq_r (ry_move rfl) ?_
        refine sq_r (ry_assign rfl) ?_
        refine sq_r (ry_assign rfl) ?_
        refine sq_nil ?_
        refine ex_then ?_
        refine cw_ret ?_
        refine ex_ret (.inl rfl) (res_2 rfl (rv_tmp rfl) (rv_tmp rfl)) (fun w1 hw => ?_)
        exact ⟨a, by rw [hE.1], by rw [hi2, hE.2, List.take_of_length_le (by omega)], hw⟩
instance pbodies_i {w0 : World} {L : List Ent} {t : Sv} {ts : List Rt} {ids : Int} {room : Int} [ht : HdE w0 L rcells 19 t ts] : FnC Try.prog 45 w0 L [t.val, .int .i64 ids, .int .i64 room] (Sl (Sl UInt8)) (fun zz => .tuple #[zz.sv.val, .int .i64 (bodiesE ts ids room)]) (fun zz => Deep.ent zz :: L) (fun zz => lx zz = bodiesV ts ids room) (True) := ⟨fun hp w hw => (pbodies_c w t ts ids room (ht.h w hw)).mono fun e w' ⟨x, h1, h2, h3⟩ => ⟨x, h1, h2, hw.call h3⟩⟩

set_option maxRecDepth 20000 in
theorem rbodies_c (w : World) (t : Sv) (ts : List Rt) (ids : Int) (room : Int) (ht : Lies rcells 19 (hp w) t ts) : Calls Try.prog 46 #[t.val, .int .i64 ids, .int .i64 room] w fun e w' => ∃ zz : Sl (Sl UInt8), e = .returned (.tuple #[zz.sv.val, .int .i64 (bodiesE ts ids room)]) ∧ (lx zz = bodiesV ts ids room) ∧ Mem w [Deep.ent zz] w' := by
  have ght : Gv w t rcells 19 ts := ⟨ht⟩
  refine calls_of (args := [_, _, _]) Try.func46 rfl Try.ntmps46 rfl ?_
  change Cw _ _ _ _ _ [(0, t.val), (1, .int .i64 ids), (2, .int .i64 room)] []
  refine cw_seq ?_
  refine cw_region ?_
  refine sq_r (ry_assign rfl) ?_
  refine sq_r (ry_assign rfl) ?_
  refine sq_nil ?_
  refine ex_then ?_
  refine cw_seq ?_
  refine cw_seq ?_
  refine cw_region ?_
  refine sq_r (ry_move rfl) ?_
  refine sq_y (yl_callC rfl trivial) ?_
  refine sq_r (ry_not rfl) ?_
  refine sq_r (ry_move rfl) ?_
  refine sq_gf rfl rfl rfl (fun hg => (Ry.yl (ry_move rfl))) ?_
  refine sq_gf rfl rfl rfl (fun hg => (Ry.yl (ry_move rfl))) ?_
  refine sq_gf rfl rfl rfl (fun hg => yl_callC (evl_cons (ev_c hg rfl) (evl_cons (ev_c hg rfl) evl_nil)) trivial) ?_
  refine sq_gf rfl rfl rfl (fun hg => (Ry.yl (ry_int (ev_c hg rfl) rfl rfl))) ?_
  refine sq_r (ry_or rfl rfl rfl) ?_
  refine sq_nil ?_
  refine ex_then ?_
  refine cw_cond rfl (fun h0 => ?_) (fun h0 => ?_)
  · try simp only [Bool.and_eq_true, Bool.or_eq_true, Bool.and_eq_false_iff, Bool.or_eq_false_iff, Bool.not_eq_true', Bool.not_eq_false', decide_eq_true_eq, decide_eq_false_iff_not, Bool.not_eq_true, Bool.not_eq_false] at h0
    replace h0 := h0.symm
    refine cw_seq ?_
    refine cw_region ?_
    refine sq_r (ry_assign rfl) ?_
    refine sq_r (ry_assign rfl) ?_
    refine sq_nil ?_
    refine ex_then ?_
    refine cw_ret ?_
    refine ex_pass_ret ?_
    refine ex_ret (.inl rfl) (res_2 rfl (rv_tmp rfl) (rv_tmp rfl)) (fun w1 hw => ?_)
    exact ⟨⟨Sv.none, []⟩, by rw [(bodiesE_1 h0).1]; rfl, (bodiesE_1 h0).2.symm, Mem.nilEnt (enc := scells) (c := 1) (Keep.mem hw)⟩
  · try simp only [Bool.and_eq_true, Bool.or_eq_true, Bool.and_eq_false_iff, Bool.or_eq_false_iff, Bool.not_eq_true', Bool.not_eq_false', decide_eq_true_eq, decide_eq_false_iff_not, Bool.not_eq_true, Bool.not_eq_false] at h0
    
    replace h0 := h0.symm
    obtain ⟨h0a, h0b⟩ := h0
    have hm := most_pos h0a
    obtain ⟨k, hk⟩ : ∃ k : Nat, ids = k := ⟨ids.toNat, by omega⟩
    obtain ⟨n, hn⟩ : ∃ n : Nat, room / 20 = n := ⟨(room / 20).toNat, by omega⟩
    have hkn : ids * (room / 20) = ((k * n : Nat) : Int) := by rw [hk, hn, Int.natCast_mul]
    have ek : ids.toNat = k := by omega
    have en : (room / 20).toNat = n := by omega
    refine cw_skip ?_
    refine ex_then ?_
    refine cw_seq ?_
    refine cw_seq ?_
    refine cw_region ?_
    refine sq_r (ry_move rfl) ?_
    refine sq_r (ry_lenH rfl) ?_
    refine sq_r (ry_move rfl) ?_
    refine sq_r (ry_move rfl) ?_
    refine sq_y (yl_callC rfl trivial) ?_
    refine sq_r (ry_int rfl rfl rfl) ?_
    refine sq_nil ?_
    refine ex_then ?_
    refine cw_cond rfl (fun h1 => ?_) (fun h1 => ?_)
    · try simp only [Bool.and_eq_true, Bool.or_eq_true, Bool.and_eq_false_iff, Bool.or_eq_false_iff, Bool.not_eq_true', Bool.not_eq_false', decide_eq_true_eq, decide_eq_false_iff_not, Bool.not_eq_true, Bool.not_eq_false] at h1
      refine cw_seq ?_
      refine cw_region ?_
      refine sq_r (ry_assign rfl) ?_
      refine sq_r (ry_assign rfl) ?_
      refine sq_nil ?_
      refine ex_then ?_
      refine cw_ret ?_
      refine ex_pass_ret ?_
      refine ex_ret (.inl rfl) (res_2 rfl (rv_tmp rfl) (rv_tmp rfl)) (fun w1 hw => ?_)
      exact ⟨⟨Sv.none, []⟩, by rw [(bodiesE_5 h0a h0b h1).1]; rfl, (bodiesE_5 h0a h0b h1).2.symm, Mem.nilEnt (enc := scells) (c := 1) (Keep.mem hw)⟩
    · try simp only [Bool.and_eq_true, Bool.or_eq_true, Bool.and_eq_false_iff, Bool.or_eq_false_iff, Bool.not_eq_true', Bool.not_eq_false', decide_eq_true_eq, decide_eq_false_iff_not, Bool.not_eq_true, Bool.not_eq_false] at h1
      have hE := bodiesE_0 h0a h0b h1
      rw [ek, en] at hE
      have htk : ts.length ≤ k * n := by omega
      have hl := ht.bd
      refine cw_skip ?_
      refine ex_then ?_
      refine cw_seq ?_
      refine cw_region ?_
      refine sq_r (ry_assign rfl) ?_
      refine sq_nil ?_
      refine ex_then ?_
      refine cw_seq ?_
      refine cw_seq ?_
      refine cw_region ?_
      refine sq_r (ry_assign rfl) ?_
      refine sq_nil ?_
      refine ex_then ?_
      refine cw_block ?_
      refine cw_loop (X := Nat × Sl (Sl UInt8)) (fun zz => [(9, .int .i64 (zz.1 : Nat)), (8, zz.2.sv.val), (0, t.val), (1, .int .i64 ids), (2, .int .i64 room)]) (fun zz => [Deep.ent zz.2]) (fun zz => zz.1 ≤ k ∧ lx zz.2 = bodiesOf ts zz.1 n) (fun zz => k - zz.1) (0, ⟨Sv.none, []⟩) ⟨by first | omega | (simp only []; omega), rfl⟩ (Sub.cons rfl (Sub.cons rfl (Sub.cons rfl (Sub.cons rfl (Sub.cons rfl (Sub.nil _)))))) (fun w hw => Mem.nilEnt (enc := scells) (c := 1) hw) ?_
      rintro ⟨id, o⟩ ⟨hi1, hi2⟩
      dsimp only
      simp only at hi1 hi2
      refine cw_seq ?_
      refine cw_seq ?_
      refine cw_region ?_
      refine sq_r (ry_move rfl) ?_
      refine sq_r (ry_move rfl) ?_
      refine sq_r (ry_int rfl rfl rfl) ?_
      refine sq_nil ?_
      refine ex_then ?_
      refine cw_cond rfl (fun h2 => ?_) (fun h2 => ?_)
      · try simp only [Bool.and_eq_true, Bool.or_eq_true, Bool.and_eq_false_iff, Bool.or_eq_false_iff, Bool.not_eq_true', Bool.not_eq_false', decide_eq_true_eq, decide_eq_false_iff_not, Bool.not_eq_true, Bool.not_eq_false] at h2
        have hidk : id < k := by omega
        have hb1 : ((id : Nat) : Int) * (room / 20) = ((id * n : Nat) : Int) := by rw [hn, Int.natCast_mul]
        have hb2 : (((id : Nat) : Int) + 1) * (room / 20) = (((id + 1) * n : Nat) : Int) := by rw [hn, Int.natCast_mul]; rfl
        have hb3 : id * n ≤ 64 * 12 := Nat.mul_le_mul (by omega) (by omega)
        have hb4 : (id + 1) * n ≤ 64 * 12 := Nat.mul_le_mul (by omega) (by omega)
        have hb5 : (id + 1) * n = id * n + n := by rw [Nat.add_mul, Nat.one_mul]
        refine cw_skip ?_
        refine ex_then ?_
        refine cw_seq ?_
        refine cw_block ?_
        refine cw_seq ?_
        refine cw_region ?_
        refine sq_r (ry_assign rfl) ?_
        refine sq_nil ?_
        refine ex_then ?_
        refine cw_seq ?_
        refine cw_seq ?_
        refine cw_region ?_
        refine sq_r (ry_move rfl) ?_
        refine sq_r (ry_move rfl) ?_
        refine sq_r (ry_quo rfl rfl (by omega) (by omega)) ?_
        refine sq_r (ry_mul rfl rfl (by omega)) ?_
        refine sq_r (ry_assign rfl) ?_
        refine sq_nil ?_
        refine ex_then ?_
        refine cw_block ?_
        refine cw_loop (X := Nat × Sv) (fun zz => [(11, .int .i64 (zz.1 : Nat)), (10, zz.2.val), (0, t.val), (1, .int .i64 ids), (2, .int .i64 room), (8, o.sv.val), (9, .int .i64 (id : Nat))]) (fun zz => [own benc 1 zz.2 (bodyPre ts (id * n) zz.1), Deep.ent o]) (fun zz => id * n ≤ zz.1 ∧ zz.1 ≤ (id + 1) * n) (fun zz => (id + 1) * n - zz.1) (id * n, Sv.none) ⟨Nat.le_refl _, by first | omega | (simp only []; omega)⟩ (Sub.cons (look_eq rfl (by rw [hb1])) (Sub.cons rfl (Sub.cons rfl (Sub.cons rfl (Sub.cons rfl (Sub.cons rfl (Sub.cons rfl (Sub.nil _)))))))) (fun w hw => by rw [bodyPre_self]; exact Mem.nilOwn benc 1 hw) ?_
        rintro ⟨i, b⟩ ⟨hj1, hj2⟩
        dsimp only
        simp only at hj1 hj2
        refine cw_seq ?_
        refine cw_seq ?_
        refine cw_region ?_
        refine sq_r (ry_move rfl) ?_
        refine sq_r (ry_move rfl) ?_
        refine sq_r (ry_add rfl rfl (by omega)) ?_
        refine sq_r (ry_move rfl) ?_
        refine sq_r (ry_quo rfl rfl (by omega) (by omega)) ?_
        refine sq_r (ry_mul rfl rfl (by omega)) ?_
        refine sq_r (ry_int rfl rfl rfl) ?_
        refine sq_r (ry_move rfl) ?_
        refine sq_gt rfl rfl rfl (fun hg => (Ry.yl (ry_move rfl))) ?_
        refine sq_gt rfl rfl rfl (fun hg => (Ry.yl (ry_move rfl))) ?_
        refine sq_gt rfl rfl rfl (fun hg => (Ry.yl (ry_lenH (ev_c hg rfl)))) ?_
        refine sq_gt rfl rfl rfl (fun hg => (Ry.yl (ry_int (ev_c hg rfl) (ev_c hg rfl) rfl))) ?_
        refine sq_r (ry_and rfl rfl rfl) ?_
        refine sq_nil ?_
        refine ex_then ?_
        refine cw_cond rfl (fun h3 => ?_) (fun h3 => ?_)
        · try simp only [Bool.and_eq_true, Bool.or_eq_true, Bool.and_eq_false_iff, Bool.or_eq_false_iff, Bool.not_eq_true', Bool.not_eq_false', decide_eq_true_eq, decide_eq_false_iff_not, Bool.not_eq_true, Bool.not_eq_false] at h3
          have hi6 : i < (id + 1) * n ∧ i < ts.length := by omega
          refine cw_skip ?_
          refine ex_then ?_
          refine cw_seq ?_
          refine cw_block ?_
          refine cw_region ?_
          refine sq_r (ry_move rfl) ?_
          refine sq_r (ry_move rfl) ?_
          refine sq_r (ry_move rfl) ?_
          obtain ⟨e54, he54⟩ := get_some (xs := ts) (i := i) (by omega)
          refine sq_r (ry_idxH rfl rfl i rfl (by omega)) ?_
          refine sq_r (ry_elemH rfl i he54 rfl) ?_
          refine sq_callC rfl trivial fun x56 hp56 => ?_
          refine sq_append (s := b) (ys := (rbytes e54)) rfl rfl (by decide) (fun w hw => src_rows (s := x56) Try.underlying30 (by decide) ((inferInstance : Hd _ _ x56 benc 1 (rbytes e54)).h w hw)) (by have := bodyPre_length ts (id * n) i; rw [rbytes_length]; omega) (by have := bodyPre_length ts (id * n) i; rw [rbytes_length]; omega) fun s57 hs57 hl57 => ?_
          refine sq_r (ry_assign rfl) ?_
          refine sq_nil ?_
          refine ex_block ?_
          refine ex_then ?_
          refine cw_region ?_
          refine sq_r (ry_move rfl) ?_
          refine sq_r (ry_add rfl rfl (by omega)) ?_
          refine sq_r (ry_assign rfl) ?_
          refine sq_nil ?_
          exact ex_again (x := (i, b)) (i + 1, s57) ⟨by first | omega | (simp only []; omega), by first | omega | (simp only []; omega)⟩ (by first | omega | (simp only []; omega)) (Sub.cons rfl (Sub.cons rfl (Sub.cons rfl (Sub.cons rfl (Sub.cons rfl (Sub.cons rfl (Sub.cons rfl (Sub.nil _)))))))) (fun w hw => by rw [bodyPre_succ hj1 he54]; exact Keep.mem hw)
        · try simp only [Bool.and_eq_true, Bool.or_eq_true, Bool.and_eq_false_iff, Bool.or_eq_false_iff, Bool.not_eq_true', Bool.not_eq_false', decide_eq_true_eq, decide_eq_false_iff_not, Bool.not_eq_true, Bool.not_eq_false] at h3
          have hi6 : (id + 1) * n ≤ i ∨ ts.length ≤ i := by omega
          refine cw_exit ?_
          refine ex_pass_exit ?_
          refine ex_pass_exit ?_
          refine ex_block_hit ?_
          refine ex_then ?_
          refine cw_region ?_
          refine sq_r (ry_move rfl) ?_
          refine sq_r (ry_move rfl) ?_
          refine sq_buildSlice (enc := scells) (vals := [b.val]) [⟨b, (bodyPre ts (id * n) i)⟩] rfl (by simp only [List.map_cons, List.map_nil, Sv.cells_val]; rfl) rfl (by decide) (by decide) fun b60 => ?_
          refine sq_appendD (s := ⟨false, b60, 0, 1, 1, none⟩) o [⟨b, (bodyPre ts (id * n) i)⟩] rfl rfl (by decide) (by rw [show o.xs.length = id from by rw [← lx_length, hi2, bodiesOf_length]]; simp only [List.length_cons, List.length_nil]; omega) (by rw [show o.xs.length = id from by rw [← lx_length, hi2, bodiesOf_length]]; simp only [List.length_cons, List.length_nil]; omega) fun x61 hx61 => ?_
          refine sq_r (ry_assign rfl) ?_
          refine sq_nil ?_
          refine ex_block ?_
          refine ex_then ?_
          refine cw_region ?_
          refine sq_r (ry_move rfl) ?_
          refine sq_r (ry_add rfl rfl (by omega)) ?_
          refine sq_r (ry_assign rfl) ?_
          refine sq_nil ?_
          exact ex_again (x := (id, o)) (id + 1, x61) ⟨by first | omega | (simp only []; omega), by rw [lx, hx61, List.map_append, bodiesOf_succ, ← hi2, ← bodyPre_end hj1 hj2 hi6]; rfl⟩ (by first | omega | (simp only []; omega)) (Sub.cons rfl (Sub.cons rfl (Sub.cons rfl (Sub.cons rfl (Sub.cons rfl (Sub.nil _)))))) (fun w hw => Keep.mem hw)
      · try simp only [Bool.and_eq_true, Bool.or_eq_true, Bool.and_eq_false_iff, Bool.or_eq_false_iff, Bool.not_eq_true', Bool.not_eq_false', decide_eq_true_eq, decide_eq_false_iff_not, Bool.not_eq_true, Bool.not_eq_false] at h2
        refine cw_exit ?_
        refine ex_pass_exit ?_
        refine ex_pass_exit ?_
        refine ex_block_hit ?_
        refine ex_then ?_
        refine cw_seq ?_
        refine cw_region ?_
        refine sq_r (ry_move rfl) ?_
        refine sq_r (ry_assign rfl) ?_
        refine sq_r (ry_assign rfl) ?_
        refine sq_nil ?_
        refine ex_then ?_
        refine cw_ret ?_
        refine ex_ret (.inl rfl) (res_2 rfl (rv_tmp rfl) (rv_tmp rfl)) (fun w1 hw => ?_)
        exact ⟨o, by rw [hE.1], by rw [hi2, hE.2, show id = k by omega], hw⟩
instance rbodies_i {w0 : World} {L : List Ent} {t : Sv} {ts : List Rt} {ids : Int} {room : Int} [ht : HdE w0 L rcells 19 t ts] : FnC Try.prog 46 w0 L [t.val, .int .i64 ids, .int .i64 room] (Sl (Sl UInt8)) (fun zz => .tuple #[zz.sv.val, .int .i64 (bodiesE ts ids room)]) (fun zz => Deep.ent zz :: L) (fun zz => lx zz = bodiesV ts ids room) (True) := ⟨fun hp w hw => (rbodies_c w t ts ids room (ht.h w hw)).mono fun e w' ⟨x, h1, h2, h3⟩ => ⟨x, h1, h2, hw.call h3⟩⟩

end Go.Proofs.Ytembaconocgmlaa
