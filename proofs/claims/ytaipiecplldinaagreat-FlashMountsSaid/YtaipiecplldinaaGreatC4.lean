/- Roots read. -/
import Derived.Test.YtaipiecplldinaaGreatC3
import Derived.Test.YtaipiecplldinaaGreatC2
set_option maxRecDepth 20000

set_option linter.unusedSimpArgs false
set_option linter.unusedVariables false
namespace Go.Proofs.YtaipiecplldinaaGreat
open Go.Eng Go.Kb
open Go.RowKit
theorem rt_build (g : UInt64) (w : World) : (Instr.build 147 #[(0, .int .u64 (g.toNat : Int))]).run Tryz.prog w = .ok (.agg (rtcells ⟨g, ⟨Sv.none, []⟩⟩)) w := by
 unfold rtcells
 kernel_rfl
theorem rtread_c (w : World) (b : Sv) (bs : List UInt8) (hb : Lies benc 1 (hp w) b bs) : Calls Tryz.prog 130 #[b.val] w fun e w' => ∃ zz : Rts, e = .returned (.tuple #[.agg (rtcells zz), .int .i64 ((rreadF bs).2)]) ∧ (rvv zz = (rreadF bs).1) ∧ Mem w [own iec 1 zz.at_.sv zz.at_.xs] w' := by
 have ghb : Gv w b benc 1 bs := ⟨hb⟩
 refine calls_of (args := [_]) Tryz.func130 rfl Tryz.ntmps130 rfl ?_
 change Cw _ _ _ _ _ [(0, b.val)] []
 refine cw_seq ?_
 refine cw_region ?_
 refine sq_allocA fun b2 => ?_
 refine sq_r (ry_assign rfl) ?_
 refine sq_nil ?_
 refine ex_then ?_
 refine cw_seq ?_
 refine cw_region ?_
 refine sq_r (ry_move rfl) ?_
 refine sq_callC rfl trivial fun x11 hp11 => ?_
 have hpk : x11.kind = (readF bs).1.kind := congrArg PV.kind hp11
 have hpi : x11.id = (readF bs).1.id := congrArg PV.id hp11
 have hpg : x11.gen.toNat = (readF bs).1.gen := congrArg PV.gen hp11
 have hpb : x11.body.xs = (readF bs).1.body := congrArg PV.body hp11
 have hbl := readF_len bs
 rw [← hpb] at hbl
 refine sq_r (ry_move rfl) ?_
 refine sq_r (ry_extract (v := .agg (pgcells x11)) rfl rfl) ?_
 refine sq_r (ry_extract (v := .int .i64 ((readF bs).2)) rfl rfl) ?_
 refine sq_allocA fun b4 => ?_
 refine sq_storeW rfl rfl ?_
 refine sq_r (ry_assign rfl) ?_
 refine sq_nil ?_
 refine ex_then ?_
 refine cw_seq ?_
 refine cw_seq ?_
 refine cw_region ?_
 refine sq_r (ry_move rfl) ?_
 refine sq_r (ry_int rfl rfl rfl) ?_
 refine sq_nil ?_
 refine ex_then ?_
 refine cw_cond rfl (fun h0 => ?_) (fun h0 => ?_)
 ·
  try simp only [Z0, Z1, Z2, Z3, Z4, Z5, Z6, Z7, Z8, Z9] at h0
  have hE : rreadF bs = (zRV, (readF bs).2) := by rw [rreadF, if_pos h0]
  refine cw_seq ?_
  refine cw_region ?_
  refine sq_r (ry_build (v := .agg (rtcells zRts)) rfl (fun w => by kernel_rfl)) ?_
  refine sq_r (ry_move rfl) ?_
  refine sq_storeW rfl rfl ?_
  refine sq_r (ry_assign rfl) ?_
  refine sq_nil ?_
  refine ex_then ?_
  refine cw_ret ?_
  refine ex_pass_ret ?_
  refine ex_ret (.inl rfl) (res_2 rfl (rv_agg rfl) (rv_tmp rfl)) (fun w1 hw => ?_)
  exact ⟨zRts, by rw [hE], by rw [hE]; rfl, Mem.nilOwn iec 1 (Keep.mem hw : Mem w [] _)⟩
 ·
  try simp only [Z0, Z1, Z2, Z3, Z4, Z5, Z6, Z7, Z8, Z9] at h0
  refine cw_skip ?_
  refine ex_then ?_
  refine cw_seq ?_
  refine cw_seq ?_
  refine cw_region ?_
  refine sq_r (ry_field (o' := 0) rfl rfl) ?_
  refine sq_r (ry_cellc rfl) ?_
  refine sq_r (ry_int rfl rfl rfl) ?_
  refine sq_nil ?_
  refine ex_then ?_
  refine cw_cond rfl (fun h1 => ?_) (fun h1 => ?_)
  ·
   try simp only [Z0, Z1, Z2, Z3, Z4, Z5, Z6, Z7, Z8, Z9] at h1
   have hE : rreadF bs = (zRV, 6) := by rw [rreadF, if_neg (by omega), if_pos (by omega)]
   refine cw_seq ?_
   refine cw_region ?_
   refine sq_r (ry_build (v := .agg (rtcells zRts)) rfl (fun w => by kernel_rfl)) ?_
   refine sq_storeW rfl rfl ?_
   refine sq_r (ry_assign rfl) ?_
   refine sq_nil ?_
   refine ex_then ?_
   refine cw_ret ?_
   refine ex_pass_ret ?_
   refine ex_ret (.inl rfl) (res_2 rfl (rv_agg rfl) (rv_tmp rfl)) (fun w1 hw => ?_)
   exact ⟨zRts, by rw [hE], by rw [hE]; rfl, Mem.nilOwn iec 1 (Keep.mem hw : Mem w [] _)⟩
  ·
   try simp only [Z0, Z1, Z2, Z3, Z4, Z5, Z6, Z7, Z8, Z9] at h1
   refine cw_skip ?_
   refine ex_then ?_
   refine cw_seq ?_
   refine cw_region ?_
   refine sq_r (ry_field (o' := 3) rfl rfl) ?_
   refine sq_r (ry_cellc rfl) ?_
   refine sq_r (ry_lenH rfl) ?_
   refine sq_r (ry_quo rfl rfl (by omega) (by omega)) ?_
   refine sq_r (ry_assign rfl) ?_
   refine sq_nil ?_
   refine ex_then ?_
   refine cw_seq ?_
   refine cw_seq ?_
   refine cw_region ?_
   refine sq_r (ry_field (o' := 0) rfl rfl) ?_
   refine sq_r (ry_cellc rfl) ?_
   refine sq_r (ry_int rfl rfl rfl) ?_
   refine sq_r (ry_move rfl) ?_
   refine sq_gf rfl rfl rfl (fun hg => (Ry.yl (ry_field (o' := 3) rfl rfl))) ?_
   refine sq_gf rfl rfl rfl (fun hg => (Ry.yl (ry_cellc (ev_c hg rfl)))) ?_
   refine sq_gf rfl rfl rfl (fun hg => (Ry.yl (ry_lenH (ev_c hg rfl)))) ?_
   refine sq_gf rfl rfl rfl (fun hg => (Ry.yl (ry_remn (p := x11.body.xs.length) (q := 2) (ev_c hg rfl) rfl rfl rfl (by simp only [Z0, Z1, Z2, Z3, Z4, Z5, Z6, Z7, Z8, Z9] at hg; omega)))) ?_
   refine sq_gf rfl rfl rfl (fun hg => (Ry.yl (ry_int (ev_c hg rfl) rfl rfl))) ?_
   refine sq_r (ry_or rfl rfl rfl) ?_
   refine sq_r (ry_move rfl) ?_
   refine sq_gf rfl rfl rfl (fun hg => (Ry.yl (ry_field (o' := 1) rfl rfl))) ?_
   refine sq_gf rfl rfl rfl (fun hg => (Ry.yl (ry_cellc (ev_c hg rfl)))) ?_
   refine sq_gf rfl rfl rfl (fun hg => (Ry.yl (ry_move rfl))) ?_
   refine sq_gf rfl rfl rfl (fun hg => (Ry.yl (ry_sub (ev_c hg rfl) rfl (by simp only [Z0, Z1, Z2, Z3, Z4, Z5, Z6, Z7, Z8, Z9] at hg; omega)))) ?_
   refine sq_gf rfl rfl rfl (fun hg => (Ry.yl (ry_max rfl (ev_c hg rfl)))) ?_
   refine sq_gf rfl rfl rfl (fun hg => (Ry.yl (ry_int (ev_c hg rfl) (ev_c hg rfl) rfl))) ?_
   refine sq_r (ry_or rfl rfl rfl) ?_
   refine sq_nil ?_
   refine ex_then ?_
   refine cw_cond rfl (fun h2 => ?_) (fun h2 => ?_)
   ·
    try simp only [Z0, Z1, Z2, Z3, Z4, Z5, Z6, Z7, Z8, Z9] at h2
    have hfo : rformF (readF bs).1 = false := by
     cases hk : rformF (readF bs).1 with
     | false => rfl
     | true =>
      simp only [rformF, Bool.and_eq_true, decide_eq_true_eq, ← hpk, ← hpi, ← hpb] at hk
      omega
    have hE : rreadF bs = (zRV, 2) := by rw [rreadF, if_neg (by omega), if_neg (by omega), if_pos hfo]
    refine cw_seq ?_
    refine cw_region ?_
    refine sq_r (ry_build (v := .agg (rtcells zRts)) rfl (fun w => by kernel_rfl)) ?_
    refine sq_storeW rfl rfl ?_
    refine sq_r (ry_assign rfl) ?_
    refine sq_nil ?_
    refine ex_then ?_
    refine cw_ret ?_
    refine ex_pass_ret ?_
    refine ex_ret (.inl rfl) (res_2 rfl (rv_agg rfl) (rv_tmp rfl)) (fun w1 hw => ?_)
    exact ⟨zRts, by rw [hE], by rw [hE]; rfl, Mem.nilOwn iec 1 (Keep.mem hw : Mem w [] _)⟩
   ·
    try simp only [Z0, Z1, Z2, Z3, Z4, Z5, Z6, Z7, Z8, Z9] at h2
    have hfo : rformF (readF bs).1 = true := by
     simp only [rformF, Bool.and_eq_true, decide_eq_true_eq, ← hpk, ← hpi, ← hpb]
     omega
    have hE : rreadF bs = (⟨x11.gen.toNat, numsF x11.body.xs⟩, 0) := by rw [rreadF, if_neg (by omega), if_neg (by omega), if_neg (by rw [hfo]; simp), hpg, hpb]
    have hnl := numsF_len x11.body.xs
    refine cw_skip ?_
    refine ex_then ?_
    refine cw_seq ?_
    refine cw_region ?_
    refine sq_r (ry_field (o' := 2) rfl rfl) ?_
    refine sq_r (ry_cellc rfl) ?_
    refine sq_r (ry_build (v := .agg (rtcells ⟨x11.gen, ⟨Sv.none, []⟩⟩)) rfl (rt_build x11.gen)) ?_
    refine sq_allocA fun b7 => ?_
    refine sq_storeW rfl rfl ?_
    refine sq_nil ?_
    refine ex_then ?_
    refine cw_seq ?_
    refine cw_seq ?_
    refine cw_region ?_
    refine sq_r (ry_move rfl) ?_
    refine sq_r (ry_move rfl) ?_
    refine sq_nil ?_
    refine ex_then ?_
    refine cw_block ?_
    refine cw_loop (X := Nat × Sv) (fun zz => [(49, .int .i64 (zz.1 : Nat)), (7, .pointer (some ⟨b7, 0, none⟩)), (2, .pointer (some ⟨b2, 0, none⟩)), (4, .pointer (some ⟨b4, 0, none⟩)), (48, .int .i64 ((x11.body.xs.length / 2) : Nat))]) (fun zz => [blk b7 (rtcells ⟨x11.gen, ⟨zz.2, (numsF x11.body.xs).take zz.1⟩⟩) 147, own iec 1 zz.2 ((numsF x11.body.xs).take zz.1), blk b4 (pgcells x11) 110, own benc 1 x11.body.sv x11.body.xs, blk b2 (rtcells zRts) 147]) (fun zz => zz.1 ≤ x11.body.xs.length / 2) (fun zz => x11.body.xs.length / 2 - zz.1) (0, Sv.none) (Nat.zero_le _) (Sub.cons rfl (Sub.cons rfl (Sub.cons rfl (Sub.cons rfl (Sub.cons rfl (Sub.nil _)))))) (fun w hw => by
     simp only [List.take_zero]; exact Keep.mem (Mem.nilOwn iec 1 hw)) ?_
    rintro ⟨i, s1⟩ hi1
    dsimp only
    simp only at hi1
    refine cw_seq ?_
    refine cw_region ?_
    refine sq_r (ry_int rfl rfl rfl) ?_
    refine sq_nil ?_
    refine ex_then ?_
    refine cw_seq ?_
    refine cw_cond rfl (fun h3 => ?_) (fun h3 => ?_)
    ·
     try simp only [Z0, Z1, Z2, Z3, Z4, Z5, Z6, Z7, Z8, Z9] at h3
     have hsn := nums_take (b := x11.body.xs) (i := i) (by omega)
     refine cw_skip ?_
     refine ex_then ?_
     refine cw_seq ?_
     refine cw_block ?_
     refine cw_seq ?_
     refine cw_region ?_
     refine sq_r (ry_move rfl) ?_
     refine sq_r (ry_assign rfl) ?_
     refine sq_nil ?_
     refine ex_then ?_
     refine cw_linE [19, 20, 22, 1001, 2019] [[], [], [], [], [], [], [], [], [], [], [], [], [], [], [], [], [], [], [], [], [1, 19], [1, 19, 20], [1, 19, 20]] [0, 1, 2, 3, 4, 5, 6, 7, 8, 9, 10, 11, 12, 13, 14, 15, 16, 17, 18, 19, 20, 21, 22] [blk b4 (pgcells x11) 110, own benc 1 x11.body.sv x11.body.xs] [(19, bsM iec 1 1 [(numAt x11.body.xs i)])] (by kernel_rfl) (fun _ hw => Keep.mem hw) (by kernel_rfl) (by kernel_rfl) ?_
     refine ln_r rfl (ry_field (o' := 1) rfl rfl) ?_
     refine lt_r rfl (ry_cellc rfl) ?_
     refine ln_r rfl (ry_field (o' := 3) rfl rfl) ?_
     refine ln_r rfl (ry_cellc rfl) ?_
     refine ln_r rfl (ry_move rfl) ?_
     refine ln_r rfl (ry_mul rfl rfl (by omega)) ?_
     refine ln_r rfl (ry_idxH rfl rfl (2 * i) rfl (by omega)) ?_
     refine ln_r rfl (ry_elemcH (j := 0) rfl (2 * i) (get_getD (xs := x11.body.xs) (i := 2 * i) (d := 0) (by omega)) rfl (by decide)) ?_
     refine ln_r rfl (ry_conv_u8 rfl) ?_
     refine ln_r rfl (ry_shl8 rfl rfl) ?_
     refine ln_r rfl (ry_field (o' := 3) rfl rfl) ?_
     refine ln_r rfl (ry_cellc rfl) ?_
     refine ln_r rfl (ry_move rfl) ?_
     refine ln_r rfl (ry_mul rfl rfl (by omega)) ?_
     refine ln_r rfl (ry_add rfl rfl (by omega)) ?_
     refine ln_r rfl (ry_idxH rfl rfl (2 * i + 1) rfl (by omega)) ?_
     refine ln_r rfl (ry_elemcH (j := 0) rfl (2 * i + 1) (get_getD (xs := x11.body.xs) (i := 2 * i + 1) (d := 0) (by omega)) rfl (by decide)) ?_
     refine ln_r rfl (ry_conv_u8 rfl) ?_
     refine ln_r rfl (ry_or8 rfl rfl) ?_
     refine ln_mk (m := bsM iec 1 1 [(numAt x11.body.xs i)]) rfl rfl (makes_bs (enc := iec) (c := 1) (n := 1) (vals := [.int .i64 (numAt x11.body.xs i)]) [(numAt x11.body.xs i)] rfl rfl rfl (by decide) (by decide)) (Cert.none rfl) fun b71 => ?_
     change Ln _ _ _ _ _ _ _ _ (putE _ _ (Sv.val ⟨false, b71, 0, 1, 1, none⟩)) (own iec 1 ⟨false, b71, 0, 1, 1, none⟩ [(numAt x11.body.xs i)] :: _) _
     refine ln_st rfl (st_append (s := s1) (ys := [(numAt x11.body.xs i)]) rfl rfl (by decide) (fun w hw => src_rows (s := ⟨false, b71, 0, 1, 1, none⟩) Tryz.underlying26 (by decide) ((inferInstance : Hd _ _ ⟨false, b71, 0, 1, 1, none⟩ iec 1 [(numAt x11.body.xs i)]).h w hw)) (by simp only [List.length_take, List.length_cons, List.length_nil]; omega) (by simp only [List.length_take, List.length_cons, List.length_nil]; omega) fun s72 hs72 hl72 => ⟨fun _ hw => Keep.mem hw, ?_⟩)
     refine ln_r rfl (ry_field (o' := 1) rfl rfl) ?_
     refine ln_st rfl (st_store (cs' := rtcells (⟨x11.gen, ⟨s72, (((numsF x11.body.xs).take i) ++ [(numAt x11.body.xs i)])⟩⟩ : Rts)) rfl rfl (by show 1 < 2; decide) (by first | rfl | exact Sv.one _) rfl ⟨fun _ hw => Keep.mem hw, ?_⟩)
     refine ln_nil ?_
     refine ex_block ?_
     refine ex_then ?_
     refine cw_region ?_
     refine sq_r (ry_add rfl rfl (by omega)) ?_
     refine sq_r (ry_move rfl) ?_
     refine sq_nil ?_
     exact ex_again (x := (i, s1)) (i + 1, s72) (by simp only; omega) (by simp only; omega) (Sub.cons rfl (Sub.cons rfl (Sub.cons rfl (Sub.cons rfl (Sub.cons rfl (Sub.nil _)))))) (fun w hw => by
      simp only [hsn]; exact Keep.mem hw)
    ·
     try simp only [Z0, Z1, Z2, Z3, Z4, Z5, Z6, Z7, Z8, Z9] at h3
     obtain rfl : i = x11.body.xs.length / 2 := by omega
     rw [List.take_of_length_le (by omega)] at *
     refine cw_exit ?_
     refine ex_pass_exit ?_
     refine ex_pass_exit ?_
     refine ex_block_hit ?_
     refine ex_then ?_
     refine cw_seq ?_
     refine cw_region ?_
     refine sq_r (ry_whole rfl) ?_
     refine sq_storeW rfl rfl ?_
     refine sq_r (ry_assign rfl) ?_
     refine sq_nil ?_
     refine ex_then ?_
     refine cw_ret ?_
     refine ex_ret (.inl rfl) (res_2 rfl (rv_agg rfl) (rv_tmp rfl)) (fun w1 hw => ?_)
     exact ⟨⟨x11.gen, ⟨s1, numsF x11.body.xs⟩⟩, by rw [hE], by rw [hE]; rfl, Keep.mem hw⟩
instance rtread_i {w0 : World} {L : List Ent} {b : Sv} {bs : List UInt8} [hb : HdE w0 L benc 1 b bs] : FnC Tryz.prog 130 w0 L [b.val] (Rts) (fun zz => .tuple #[.agg (rtcells zz), .int .i64 ((rreadF bs).2)]) (fun zz => own iec 1 zz.at_.sv zz.at_.xs :: L) (fun zz => rvv zz = (rreadF bs).1) (True) := ⟨fun hp w hw => (rtread_c w b bs (hb.h w hw)).mono fun e w' ⟨x, h1, h2, h3⟩ => ⟨x, h1, h2, hw.call h3⟩⟩

end Go.Proofs.YtaipiecplldinaaGreat

/- References: roots. -/
namespace Go.Proofs.YtaipiecplldinaaGreat
open Go.Eng Go.Kb
open Go.RowKit
theorem rrtread_c (w : World) (b : Sv) (bs : List UInt8) (hb : Lies benc 1 (hp w) b bs) : Calls Tryz.prog 133 #[b.val] w fun e w' => ∃ zz : Rts, e = .returned (.tuple #[.agg (rtcells zz), .int .i64 ((rreadF bs).2)]) ∧ (rvv zz = (rreadF bs).1) ∧ Mem w [own iec 1 zz.at_.sv zz.at_.xs] w' := by
 have ghb : Gv w b benc 1 bs := ⟨hb⟩
 have hbd := hb.bd
 have hpv := refPg_pv b bs
 have hpk : (refPg b bs).kind = (readF bs).1.kind := congrArg PV.kind hpv
 have hpi : (refPg b bs).id = (readF bs).1.id := congrArg PV.id hpv
 have hpg : (refPg b bs).gen.toNat = (readF bs).1.gen := congrArg PV.gen hpv
 have hpb : (refPg b bs).body.xs = (readF bs).1.body := congrArg PV.body hpv
 have hbl := readF_len bs
 refine calls_of (args := [_]) Tryz.func133 rfl Tryz.ntmps133 rfl ?_
 change Cw _ _ _ _ _ [(0, b.val)] []
 refine cw_seq ?_
 refine cw_region ?_
 refine sq_allocA fun b2 => ?_
 refine sq_r (ry_assign rfl) ?_
 refine sq_nil ?_
 refine ex_then ?_
 refine cw_seq ?_
 refine cw_region ?_
 refine sq_r (ry_move rfl) ?_
 refine sq_y (yl_callC rfl trivial) ?_
 refine sq_r (ry_move rfl) ?_
 refine sq_r (ry_extract (v := .agg (pgcells (refPg b bs))) rfl rfl) ?_
 refine sq_r (ry_extract (v := .int .i64 ((readF bs).2)) rfl rfl) ?_
 refine sq_allocA fun b4 => ?_
 refine sq_storeW rfl rfl ?_
 refine sq_r (ry_assign rfl) ?_
 refine sq_nil ?_
 refine ex_then ?_
 refine cw_seq ?_
 refine cw_seq ?_
 refine cw_region ?_
 refine sq_r (ry_move rfl) ?_
 refine sq_r (ry_int rfl rfl rfl) ?_
 refine sq_nil ?_
 refine ex_then ?_
 refine cw_cond rfl (fun h0 => ?_) (fun h0 => ?_)
 ·
  try simp only [Z0, Z1, Z2, Z3, Z4, Z5, Z6, Z7, Z8, Z9] at h0
  have hE : rreadF bs = (zRV, (readF bs).2) := by rw [rreadF, if_pos h0]
  refine cw_seq ?_
  refine cw_region ?_
  refine sq_r (ry_build (v := .agg (rtcells zRts)) rfl (fun w => by kernel_rfl)) ?_
  refine sq_r (ry_move rfl) ?_
  refine sq_storeW rfl rfl ?_
  refine sq_r (ry_assign rfl) ?_
  refine sq_nil ?_
  refine ex_then ?_
  refine cw_ret ?_
  refine ex_pass_ret ?_
  refine ex_ret (.inl rfl) (res_2 rfl (rv_agg rfl) (rv_tmp rfl)) (fun w1 hw => ?_)
  exact ⟨zRts, by rw [hE], by rw [hE]; rfl, Mem.nilOwn iec 1 (Keep.mem hw : Mem w [] _)⟩
 ·
  try simp only [Z0, Z1, Z2, Z3, Z4, Z5, Z6, Z7, Z8, Z9] at h0
  have h0d : ¬ (readF bs).2 ≠ 0 := fun h => h h0
  refine cw_skip ?_
  refine ex_then ?_
  refine cw_seq ?_
  refine cw_seq ?_
  refine cw_region ?_
  refine sq_r (ry_field (o' := 0) rfl rfl) ?_
  refine sq_r (ry_cellc rfl) ?_
  refine sq_r (ry_int rfl rfl rfl) ?_
  refine sq_nil ?_
  refine ex_then ?_
  refine cw_cond rfl (fun h1 => ?_) (fun h1 => ?_)
  ·
   try simp only [Z0, Z1, Z2, Z3, Z4, Z5, Z6, Z7, Z8, Z9] at h1
   have hE : rreadF bs = (zRV, 6) := by rw [rreadF, if_neg h0d, if_pos (by rw [← hpk]; exact h1)]
   refine cw_seq ?_
   refine cw_region ?_
   refine sq_r (ry_build (v := .agg (rtcells zRts)) rfl (fun w => by kernel_rfl)) ?_
   refine sq_storeW rfl rfl ?_
   refine sq_r (ry_assign rfl) ?_
   refine sq_nil ?_
   refine ex_then ?_
   refine cw_ret ?_
   refine ex_pass_ret ?_
   refine ex_ret (.inl rfl) (res_2 rfl (rv_agg rfl) (rv_tmp rfl)) (fun w1 hw => ?_)
   exact ⟨zRts, by rw [hE], by rw [hE]; rfl, Mem.nilOwn iec 1 (Keep.mem hw : Mem w [] _)⟩
  ·
   try simp only [Z0, Z1, Z2, Z3, Z4, Z5, Z6, Z7, Z8, Z9] at h1
   have h1d : ¬ (readF bs).1.kind = 0 := by rw [← hpk]; exact h1
   have hid := readF_id h0 h1d
   have hbx : (refPg b bs).body.xs.length = (readF bs).1.body.length := by rw [hpb]
   refine cw_skip ?_
   refine ex_then ?_
   refine cw_seq ?_
   refine cw_region ?_
   refine sq_r (ry_field (o' := 3) rfl rfl) ?_
   refine sq_r (ry_cellc rfl) ?_
   refine sq_r (ry_lenH rfl) ?_
   refine sq_r (ry_quo rfl rfl (by omega) (by omega)) ?_
   refine sq_r (ry_assign rfl) ?_
   refine sq_nil ?_
   refine ex_then ?_
   refine cw_seq ?_
   refine cw_seq ?_
   refine cw_region ?_
   refine sq_r (ry_field (o' := 0) rfl rfl) ?_
   refine sq_r (ry_cellc rfl) ?_
   refine sq_r (ry_int rfl rfl rfl) ?_
   refine sq_r (ry_move rfl) ?_
   refine sq_gf rfl rfl rfl (fun hg => (Ry.yl (ry_field (o' := 3) rfl rfl))) ?_
   refine sq_gf rfl rfl rfl (fun hg => (Ry.yl (ry_cellc (ev_c hg rfl)))) ?_
   refine sq_gf rfl rfl rfl (fun hg => (Ry.yl (ry_lenH (ev_c hg rfl)))) ?_
   refine sq_gf rfl rfl rfl (fun hg => (Ry.yl (ry_remn (p := (((refPg b bs).body).xs).length) (q := 2) (ev_c hg rfl) rfl rfl rfl (by simp only [Z0, Z1, Z2, Z3, Z4, Z5, Z6, Z7, Z8, Z9] at hg; omega)))) ?_
   refine sq_gf rfl rfl rfl (fun hg => (Ry.yl (ry_int (ev_c hg rfl) rfl rfl))) ?_
   refine sq_r (ry_or rfl rfl rfl) ?_
   refine sq_r (ry_move rfl) ?_
   refine sq_gf rfl rfl rfl (fun hg => (Ry.yl (ry_move rfl))) ?_
   refine sq_gf rfl rfl rfl (fun hg => (Ry.yl (ry_int (ev_c hg rfl) rfl rfl))) ?_
   refine sq_r (ry_or rfl rfl rfl) ?_
   refine sq_r (ry_move rfl) ?_
   refine sq_gf rfl rfl rfl (fun hg => (Ry.yl (ry_move rfl))) ?_
   refine sq_gf rfl rfl rfl (fun hg => (Ry.yl (ry_int (ev_c hg rfl) rfl rfl))) ?_
   refine sq_gf rfl rfl rfl (fun hg => (Ry.yl (ry_move (ev_c hg rfl)))) ?_
   refine sq_nt rfl rfl rfl (fun hg => (Ry.yl (ry_field (o' := 1) rfl rfl))) ?_
   refine sq_nt rfl rfl rfl (fun hg => (Ry.yl (ry_cellc (ev_c hg rfl)))) ?_
   refine sq_nt rfl rfl rfl (fun hg => (Ry.yl (ry_move rfl))) ?_
   refine sq_nt rfl rfl rfl (fun hg => (Ry.yl (ry_sub (ev_c hg rfl) rfl (by simp only [Z0, Z1, Z2, Z3, Z4, Z5, Z6, Z7, Z8, Z9] at hg; omega)))) ?_
   refine sq_nt rfl rfl rfl (fun hg => (Ry.yl (ry_int (ev_c hg rfl) (ev_c hg rfl) rfl))) ?_
   refine sq_gf rfl rfl rfl (fun hg => (Ry.yl (ry_and (ev_c hg rfl) (ev_cc hg rfl) rfl))) ?_
   refine sq_r (ry_or rfl rfl rfl) ?_
   refine sq_r (ry_move rfl) ?_
   refine sq_gf rfl rfl rfl (fun hg => (Ry.yl (ry_move rfl))) ?_
   refine sq_gf rfl rfl rfl (fun hg => (Ry.yl (ry_int (ev_c hg rfl) rfl rfl))) ?_
   refine sq_gf rfl rfl rfl (fun hg => (Ry.yl (ry_move (ev_c hg rfl)))) ?_
   refine sq_nt rfl rfl rfl (fun hg => (Ry.yl (ry_field (o' := 1) rfl rfl))) ?_
   refine sq_nt rfl rfl rfl (fun hg => (Ry.yl (ry_cellc (ev_c hg rfl)))) ?_
   refine sq_nt rfl rfl rfl (fun hg => (Ry.yl (ry_int (ev_c hg rfl) rfl rfl))) ?_
   refine sq_gf rfl rfl rfl (fun hg => (Ry.yl (ry_and (ev_c hg rfl) (ev_cc hg rfl) rfl))) ?_
   refine sq_r (ry_or rfl rfl rfl) ?_
   refine sq_nil ?_
   refine ex_then ?_
   refine cw_cond rfl (fun h2 => ?_) (fun h2 => ?_)
   ·
    try simp only [Z0, Z1, Z2, Z3, Z4, Z5, Z6, Z7, Z8, Z9] at h2
    have hfo : rformF (readF bs).1 = false := by
     cases hk : rformF (readF bs).1 with
     | false => rfl
     | true =>
      simp only [rformF, Bool.and_eq_true, decide_eq_true_eq] at hk
      omega
    have hE : rreadF bs = (zRV, 2) := by rw [rreadF, if_neg h0d, if_neg h1d, if_pos hfo]
    refine cw_seq ?_
    refine cw_region ?_
    refine sq_r (ry_build (v := .agg (rtcells zRts)) rfl (fun w => by kernel_rfl)) ?_
    refine sq_storeW rfl rfl ?_
    refine sq_r (ry_assign rfl) ?_
    refine sq_nil ?_
    refine ex_then ?_
    refine cw_ret ?_
    refine ex_pass_ret ?_
    refine ex_ret (.inl rfl) (res_2 rfl (rv_agg rfl) (rv_tmp rfl)) (fun w1 hw => ?_)
    exact ⟨zRts, by rw [hE], by rw [hE]; rfl, Mem.nilOwn iec 1 (Keep.mem hw : Mem w [] _)⟩
   ·
    try simp only [Z0, Z1, Z2, Z3, Z4, Z5, Z6, Z7, Z8, Z9] at h2
    have hfo : rformF (readF bs).1 = true := by
     simp only [rformF, Bool.and_eq_true, decide_eq_true_eq]
     omega
    have hE : rreadF bs = (⟨(refPg b bs).gen.toNat, numsF (readF bs).1.body⟩, 0) := by rw [rreadF, if_neg h0d, if_neg h1d, if_neg (by rw [hfo]; simp), hpg]
    have hnl := numsF_len (readF bs).1.body
    refine cw_skip ?_
    refine ex_then ?_
    refine cw_seq ?_
    refine cw_region ?_
    refine sq_r (ry_field (o' := 2) rfl rfl) ?_
    refine sq_r (ry_cellc rfl) ?_
    refine sq_r (ry_build (v := .agg (rtcells ⟨(refPg b bs).gen, ⟨Sv.none, []⟩⟩)) rfl (rt_build (refPg b bs).gen)) ?_
    refine sq_allocA fun b7 => ?_
    refine sq_storeW rfl rfl ?_
    refine sq_nil ?_
    refine ex_then ?_
    refine cw_seq ?_
    refine cw_seq ?_
    refine cw_region ?_
    refine sq_r (ry_assign rfl) ?_
    refine sq_nil ?_
    refine ex_then ?_
    refine cw_block ?_
    refine cw_loop (X := Nat × Sv) (fun zz => [(8, .int .i64 (zz.1 : Nat)), (7, .pointer (some ⟨b7, 0, none⟩)), (2, .pointer (some ⟨b2, 0, none⟩)), (4, .pointer (some ⟨b4, 0, none⟩)), (6, .int .i64 (((((refPg b bs).body).xs).length / 2) : Nat))]) (fun zz => [blk b7 (rtcells ⟨(refPg b bs).gen, ⟨zz.2, ((numsF (readF bs).1.body).take zz.1)⟩⟩) 147, own iec 1 zz.2 ((numsF (readF bs).1.body).take zz.1), blk b4 (pgcells (refPg b bs)) 110, blk b2 (rtcells zRts) 147]) (fun zz => zz.1 ≤ (readF bs).1.body.length / 2) (fun zz => (readF bs).1.body.length / 2 - zz.1) (0, Sv.none) (Nat.zero_le _) (Sub.cons rfl (Sub.cons rfl (Sub.cons rfl (Sub.cons rfl (Sub.cons rfl (Sub.nil _)))))) (fun w hw => by
     simp only [List.take_zero]; exact Keep.mem (Mem.nilOwn iec 1 hw)) ?_
    rintro ⟨i, s1⟩ hi1
    dsimp only
    simp only at hi1
    refine cw_seq ?_
    refine cw_seq ?_
    refine cw_region ?_
    refine sq_r (ry_move rfl) ?_
    refine sq_r (ry_move rfl) ?_
    refine sq_r (ry_int rfl rfl rfl) ?_
    refine sq_nil ?_
    refine ex_then ?_
    refine cw_cond rfl (fun h3 => ?_) (fun h3 => ?_)
    ·
     try simp only [Z0, Z1, Z2, Z3, Z4, Z5, Z6, Z7, Z8, Z9] at h3
     have hsn := nums_take (b := (readF bs).1.body) (i := i) (by omega)
     have hde : de (((refPg b bs).body.xs.drop (2 * i)).take (2 * i + 2 - 2 * i)) = (hop16 ((readF bs).1.body.getD (2 * i) 0) ((readF bs).1.body.getD (2 * i + 1) 0)).toNat := by rw [hpb]; exact de_twoW (by omega)
     have hde2 : ((de (((refPg b bs).body.xs.drop (2 * i)).take (2 * i + 2 - 2 * i)) : Nat) : Int) = (numAt (readF bs).1.body i) := by rw [hde]; rfl
     have hh16 := (hop16 ((readF bs).1.body.getD (2 * i) 0) ((readF bs).1.body.getD (2 * i + 1) 0)).toNat_lt
     refine cw_skip ?_
     refine ex_then ?_
     refine cw_seq ?_
     refine cw_block ?_
     refine cw_linE [12, 13, 15, 1001, 2012] [[], [], [], [], [], [], [], [], [], [], [], [], [], [1, 12], [1, 12, 13], [1, 12, 13]] [0, 1, 2, 3, 4, 5, 6, 7, 8, 9, 10, 11, 12, 13, 14, 15] [blk b4 (pgcells (refPg b bs)) 110] [(12, bsM iec 1 1 [(numAt (readF bs).1.body i)])] (by kernel_rfl) (fun _ hw => Keep.mem hw) (by kernel_rfl) (by kernel_rfl) ?_
     refine ln_r rfl (ry_field (o' := 1) rfl rfl) ?_
     refine lt_r rfl (ry_cellc rfl) ?_
     refine ln_r rfl (ry_field (o' := 3) rfl rfl) ?_
     refine ln_r rfl (ry_cellc rfl) ?_
     refine ln_r rfl (ry_move rfl) ?_
     refine ln_r rfl (ry_mul rfl rfl (by omega)) ?_
     refine ln_r rfl (ry_move rfl) ?_
     refine ln_r rfl (ry_mul rfl rfl (by omega)) ?_
     refine ln_r rfl (ry_add rfl rfl (by omega)) ?_
     have rg78 : Rg (2 * i) ((2 * i) + 2) (((refPg b bs).body).xs).length := ⟨by omega⟩
     refine ln_r rfl (ry_subH rfl rfl rfl (2 * i) ((2 * i) + 2) rfl rfl rg78.h.1 rg78.h.2) ?_
     refine ln_y rfl (yl_callC rfl (by rw [List.length_take]; omega)) ?_
     refine ln_r rfl (Ry.to (v' := .int .i64 (numAt (readF bs).1.body i)) (ry_convn rfl (by simp only [nb]; rw [hde]; omega)) (by rw [hde2])) ?_
     refine ln_mk (m := bsM iec 1 1 [(numAt (readF bs).1.body i)]) rfl rfl (makes_bs (enc := iec) (c := 1) (n := 1) (vals := [.int .i64 (numAt (readF bs).1.body i)]) [(numAt (readF bs).1.body i)] rfl rfl rfl (by decide) (by decide)) (Cert.none rfl) fun b81 => ?_
     change Ln _ _ _ _ _ _ _ _ (putE _ _ (Sv.val ⟨false, b81, 0, 1, 1, none⟩)) (own iec 1 ⟨false, b81, 0, 1, 1, none⟩ [(numAt (readF bs).1.body i)] :: _) _
     refine ln_st rfl (st_append (s := s1) (ys := [(numAt (readF bs).1.body i)]) rfl rfl (by decide) (fun w hw => src_rows (s := ⟨false, b81, 0, 1, 1, none⟩) Tryz.underlying26 (by decide) ((inferInstance : Hd _ _ ⟨false, b81, 0, 1, 1, none⟩ iec 1 [(numAt (readF bs).1.body i)]).h w hw)) (by simp only [List.length_take, List.length_cons, List.length_nil]; omega) (by simp only [List.length_take, List.length_cons, List.length_nil]; omega) fun s82 hs82 hl82 => ⟨fun _ hw => Keep.mem hw, ?_⟩)
     refine ln_r rfl (ry_field (o' := 1) rfl rfl) ?_
     refine ln_st rfl (st_store (cs' := rtcells (⟨(refPg b bs).gen, ⟨s82, (((numsF (readF bs).1.body).take i) ++ [(numAt (readF bs).1.body i)])⟩⟩ : Rts)) rfl rfl (by show 1 < 2; decide) (by first | rfl | exact Sv.one _) rfl ⟨fun _ hw => Keep.mem hw, ?_⟩)
     refine ln_nil ?_
     refine ex_block ?_
     refine ex_then ?_
     refine cw_region ?_
     refine sq_r (ry_move rfl) ?_
     refine sq_r (ry_add rfl rfl (by omega)) ?_
     refine sq_r (ry_assign rfl) ?_
     refine sq_nil ?_
     exact ex_again (x := (i, s1)) (i + 1, s82) (by simp only; omega) (by simp only; omega) (Sub.cons rfl (Sub.cons rfl (Sub.cons rfl (Sub.cons rfl (Sub.cons rfl (Sub.nil _)))))) (fun w hw => by
      simp only [hsn]; exact Keep.mem hw)
    ·
     try simp only [Z0, Z1, Z2, Z3, Z4, Z5, Z6, Z7, Z8, Z9] at h3
     obtain rfl : i = (readF bs).1.body.length / 2 := by omega
     rw [List.take_of_length_le (by omega)] at *
     refine cw_exit ?_
     refine ex_pass_exit ?_
     refine ex_pass_exit ?_
     refine ex_block_hit ?_
     refine ex_then ?_
     refine cw_seq ?_
     refine cw_region ?_
     refine sq_r (ry_whole rfl) ?_
     refine sq_storeW rfl rfl ?_
     refine sq_r (ry_assign rfl) ?_
     refine sq_nil ?_
     refine ex_then ?_
     refine cw_ret ?_
     refine ex_ret (.inl rfl) (res_2 rfl (rv_agg rfl) (rv_tmp rfl)) (fun w1 hw => ?_)
     exact ⟨⟨(refPg b bs).gen, ⟨s1, numsF (readF bs).1.body⟩⟩, by rw [hE], by rw [hE]; rfl, Keep.mem hw⟩
instance rrtread_i {w0 : World} {L : List Ent} {b : Sv} {bs : List UInt8} [hb : HdE w0 L benc 1 b bs] : FnC Tryz.prog 133 w0 L [b.val] (Rts) (fun zz => .tuple #[.agg (rtcells zz), .int .i64 ((rreadF bs).2)]) (fun zz => own iec 1 zz.at_.sv zz.at_.xs :: L) (fun zz => rvv zz = (rreadF bs).1) (True) := ⟨fun hp w hw => (rrtread_c w b bs (hb.h w hw)).mono fun e w' ⟨x, h1, h2, h3⟩ => ⟨x, h1, h2, hw.call h3⟩⟩
theorem rrtnew_c (w : World) (l : Sl (Sl UInt8)) (hl : Deep.good (hp w) l) : Calls Tryz.prog 94 #[l.sv.val] w fun e w' => ∃ zz : Rts, e = .returned (.tuple #[.int .i64 ((nwF (txs l.xs)).1), .agg (rtcells zz), .int .i64 ((nwF (txs l.xs)).2.2)]) ∧ (rvv zz = (nwF (txs l.xs)).2.1) ∧ Mem w [own iec 1 zz.at_.sv zz.at_.xs] w' := by
 have ghl : GvD w l := ⟨hl⟩
 have hbd := hl.1.bd
 have htl := txs_length l.xs
 refine calls_of (args := [_]) Tryz.func94 rfl Tryz.ntmps94 rfl ?_
 change Cw _ _ _ _ _ [(0, l.sv.val)] []
 refine cw_seq ?_
 refine cw_region ?_
 refine sq_r (ry_assign rfl) ?_
 refine sq_allocA fun b3 => ?_
 refine sq_r (ry_assign rfl) ?_
 refine sq_nil ?_
 refine ex_then ?_
 refine cw_seq ?_
 refine cw_region ?_
 refine sq_r (ry_assign rfl) ?_
 refine sq_nil ?_
 refine ex_then ?_
 refine cw_seq ?_
 refine cw_seq ?_
 refine cw_region ?_
 refine sq_r (ry_assign rfl) ?_
 refine sq_nil ?_
 refine ex_then ?_
 refine cw_block ?_
 refine cw_loop (X := Nat) (fun zz => [(6, .int .i64 (zz : Nat)), (5, .bool (((txs l.xs).take zz).all blankF)), (0, l.sv.val), (3, .pointer (some ⟨b3, 0, none⟩))]) (fun zz => [blk b3 (rtcells zRts) 147]) (fun zz => zz ≤ l.xs.length ∧ ∀ j, j < zz → bestR (txs l.xs) j = false) (fun zz => l.xs.length - zz) 0 ⟨Nat.zero_le _, fun j hj => by first | omega | (simp only []; omega)⟩ (Sub.cons rfl (Sub.cons (look_eq rfl (by rw [List.take_zero]; rfl)) (Sub.cons rfl (Sub.cons rfl (Sub.nil _))))) (fun w hw => Keep.mem hw) ?_
 rintro i ⟨hi1, hi2⟩
 refine cw_seq ?_
 refine cw_seq ?_
 refine cw_region ?_
 refine sq_r (ry_move rfl) ?_
 refine sq_r (ry_move rfl) ?_
 refine sq_r (ry_lenH rfl) ?_
 refine sq_r (ry_int rfl rfl rfl) ?_
 refine sq_nil ?_
 refine ex_then ?_
 refine cw_cond rfl (fun h0 => ?_) (fun h0 => ?_)
 ·
  try simp only [Z0, Z1, Z2, Z3, Z4, Z5, Z6, Z7, Z8, Z9] at h0
  obtain ⟨y, hy⟩ := get_some (xs := l.xs) (i := i) (by omega)
  have mby : Mb y l := ⟨List.mem_of_getElem? hy⟩
  have hty := txs_get hy
  have hgy : (txs l.xs).getD i [] = y.xs := by simp [List.getD, hty]
  have habn : (((txs l.xs).take (i + 1)).all blankF) = ((((txs l.xs).take i).all blankF) && blankF y.xs) := by rw [List.take_add_one, hty]; simp
  refine cw_skip ?_
  refine ex_then ?_
  refine cw_seq ?_
  refine cw_block ?_
  refine cw_seq ?_
  refine cw_region ?_
  refine sq_r (ry_move rfl) ?_
  refine sq_r (ry_move rfl) ?_
  refine sq_r (ry_idxH rfl rfl i rfl (by omega)) ?_
  refine sq_r (ry_elemcH (j := 0) rfl i hy rfl (by decide)) ?_
  refine sq_callC rfl trivial fun x24 hp24 => ?_
  refine sq_r (ry_move rfl) ?_
  refine sq_r (ry_extract (v := .agg (rtcells x24)) rfl rfl) ?_
  refine sq_r (ry_extract (v := .int .i64 ((rreadF y.xs).2)) rfl rfl) ?_
  refine sq_allocA fun b7 => ?_
  refine sq_storeW rfl rfl ?_
  refine sq_r (ry_assign rfl) ?_
  refine sq_nil ?_
  refine ex_then ?_
  refine cw_seq ?_
  refine cw_region ?_
  refine sq_r (ry_move rfl) ?_
  refine sq_r (ry_int rfl rfl rfl) ?_
  refine sq_r (ry_assign rfl) ?_
  refine sq_nil ?_
  refine ex_then ?_
  refine cw_seq ?_
  refine cw_seq ?_
  refine cw_region ?_
  refine sq_r (ry_assign rfl) ?_
  refine sq_nil ?_
  refine ex_then ?_
  refine cw_block ?_
  refine cw_loop (X := Nat) (fun zz => [(10, .int .i64 (zz : Nat)), (9, .bool (bestP (txs l.xs) i zz)), (0, l.sv.val), (3, .pointer (some ⟨b3, 0, none⟩)), (5, .bool (((txs l.xs).take i).all blankF)), (6, .int .i64 (i : Nat)), (7, .pointer (some ⟨b7, 0, none⟩))]) (fun zz => [blk b7 (rtcells x24) 147, own iec 1 x24.at_.sv x24.at_.xs, blk b3 (rtcells zRts) 147]) (fun zz => zz ≤ l.xs.length) (fun zz => l.xs.length - zz) 0 (Nat.zero_le _) (Sub.cons rfl (Sub.cons (look_eq rfl (by rw [bestP, hgy])) (Sub.cons rfl (Sub.cons rfl (Sub.cons rfl (Sub.cons rfl (Sub.cons rfl (Sub.nil _)))))))) (fun w hw => Keep.mem hw) ?_
  rintro k hk1
  refine cw_seq ?_
  refine cw_seq ?_
  refine cw_region ?_
  refine sq_r (ry_move rfl) ?_
  refine sq_r (ry_move rfl) ?_
  refine sq_r (ry_lenH rfl) ?_
  refine sq_r (ry_int rfl rfl rfl) ?_
  refine sq_nil ?_
  refine ex_then ?_
  refine cw_cond rfl (fun h1 => ?_) (fun h1 => ?_)
  ·
   try simp only [Z0, Z1, Z2, Z3, Z4, Z5, Z6, Z7, Z8, Z9] at h1
   obtain ⟨z, hz⟩ := get_some (xs := l.xs) (i := k) (by omega)
   have mbz : Mb z l := ⟨List.mem_of_getElem? hz⟩
   have htz := txs_get hz
   have hgz : (txs l.xs).getD k [] = z.xs := by simp [List.getD, htz]
   have hbs := bestP_succ (l := (txs l.xs)) (i := i) (k := k)
   rw [hgy, hgz] at hbs
   refine cw_skip ?_
   refine ex_then ?_
   refine cw_seq ?_
   refine cw_block ?_
   refine cw_seq ?_
   refine cw_region ?_
   refine sq_r (ry_move rfl) ?_
   refine sq_r (ry_move rfl) ?_
   refine sq_r (ry_idxH rfl rfl k rfl (by omega)) ?_
   refine sq_r (ry_elemcH (j := 0) rfl k hz rfl (by decide)) ?_
   refine sq_callC rfl trivial fun x40 hp40 => ?_
   refine sq_r (ry_move rfl) ?_
   refine sq_r (ry_extract (v := .agg (rtcells x40)) rfl rfl) ?_
   refine sq_r (ry_extract (v := .int .i64 ((rreadF z.xs).2)) rfl rfl) ?_
   refine sq_allocA fun b11 => ?_
   refine sq_storeW rfl rfl ?_
   refine sq_r (ry_assign rfl) ?_
   refine sq_nil ?_
   refine ex_then ?_
   refine cw_seq ?_
   refine cw_region ?_
   refine sq_r (ry_move rfl) ?_
   refine sq_r (ry_int rfl rfl rfl) ?_
   refine sq_r (ry_move rfl) ?_
   refine sq_gt rfl rfl rfl (fun hg => (Ry.yl (ry_field (o' := 0) rfl rfl))) ?_
   refine sq_gt rfl rfl rfl (fun hg => (Ry.yl (ry_cellc (ev_c hg rfl)))) ?_
   refine sq_gt rfl rfl rfl (fun hg => (Ry.yl (ry_field (o' := 0) rfl rfl))) ?_
   refine sq_gt rfl rfl rfl (fun hg => (Ry.yl (ry_cellc (ev_c hg rfl)))) ?_
   refine sq_gt rfl rfl rfl (fun hg => (Ry.yl (ry_int (ev_c hg rfl) (ev_c hg rfl) rfl))) ?_
   refine sq_gt rfl rfl rfl (fun hg => (Ry.yl (ry_move (ev_c hg rfl)))) ?_
   refine sq_nf rfl rfl rfl (fun hg => (Ry.yl (ry_field (o' := 0) rfl rfl))) ?_
   refine sq_nf rfl rfl rfl (fun hg => (Ry.yl (ry_cellc (ev_c hg rfl)))) ?_
   refine sq_nf rfl rfl rfl (fun hg => (Ry.yl (ry_field (o' := 0) rfl rfl))) ?_
   refine sq_nf rfl rfl rfl (fun hg => (Ry.yl (ry_cellc (ev_c hg rfl)))) ?_
   refine sq_nf rfl rfl rfl (fun hg => (Ry.yl (ry_int (ev_c hg rfl) (ev_c hg rfl) rfl))) ?_
   refine sq_nf rfl rfl rfl (fun hg => (Ry.yl (ry_move (ev_c hg rfl)))) ?_
   refine sq_nt rfl rfl rfl (fun hg => (Ry.yl (ry_move rfl))) ?_
   refine sq_nt rfl rfl rfl (fun hg => (Ry.yl (ry_move rfl))) ?_
   refine sq_nt rfl rfl rfl (fun hg => (Ry.yl (ry_int (ev_c hg rfl) (ev_c hg rfl) rfl))) ?_
   refine sq_nf rfl rfl rfl (fun hg => (Ry.yl (ry_and (ev_c hg rfl) (ev_cc hg rfl) rfl))) ?_
   refine sq_gt rfl rfl rfl (fun hg => (Ry.yl (ry_or (ev_c hg rfl) rfl (ev_cc hg rfl)))) ?_
   refine sq_r (ry_and rfl rfl rfl) ?_
   refine sq_nil ?_
   refine ex_then ?_
   refine cw_cond rfl (fun h2 => ?_) (fun h2 => ?_)
   ·
    try simp only [Z0, Z1, Z2, Z3, Z4, Z5, Z6, Z7, Z8, Z9] at h2
    have hst : bestP (txs l.xs) i (k + 1) = false := by
     rw [hbs, if_pos]
     have e1 := congrArg RV.gen hp40
     have e2 := congrArg RV.gen hp24
     change x40.gen.toNat = _ at e1
     change x24.gen.toNat = _ at e2
     rw [← e1, ← e2]
     refine ⟨h2.1, ?_⟩
     rcases h2.2 with h | h
     ·
      exact .inl (by omega)
     ·
      exact .inr ⟨by omega, by omega⟩
    refine cw_region ?_
    refine sq_r (ry_assign rfl) ?_
    refine sq_nil ?_
    refine ex_block ?_
    refine ex_then ?_
    refine cw_region ?_
    refine sq_r (ry_move rfl) ?_
    refine sq_r (ry_add rfl rfl (by omega)) ?_
    refine sq_r (ry_assign rfl) ?_
    refine sq_nil ?_
    exact ex_again (x := (k)) (k + 1) (by first | omega | (simp only []; omega)) (by first | omega | (simp only []; omega)) (Sub.cons rfl (Sub.cons (look_eq rfl (by rw [hst])) (Sub.cons rfl (Sub.cons rfl (Sub.cons rfl (Sub.cons rfl (Sub.cons rfl (Sub.nil _)))))))) (fun w hw => Keep.mem hw)
   ·
    try simp only [Z0, Z1, Z2, Z3, Z4, Z5, Z6, Z7, Z8, Z9] at h2
    have hst : bestP (txs l.xs) i (k + 1) = bestP (txs l.xs) i k := by
     rw [hbs, if_neg]
     have e1 := congrArg RV.gen hp40
     have e2 := congrArg RV.gen hp24
     change x40.gen.toNat = _ at e1
     change x24.gen.toNat = _ at e2
     rw [← e1, ← e2]
     rintro ⟨g1, g2⟩
     rcases h2 with h | h
     ·
      exact h g1
     ·
      rcases g2 with g | g
      ·
       exact h.1 (by omega)
      ·
       rcases h.2 with h | h
       ·
        exact h (by omega)
       ·
        exact h (by omega)
    refine cw_skip ?_
    refine ex_block ?_
    refine ex_then ?_
    refine cw_region ?_
    refine sq_r (ry_move rfl) ?_
    refine sq_r (ry_add rfl rfl (by omega)) ?_
    refine sq_r (ry_assign rfl) ?_
    refine sq_nil ?_
    exact ex_again (x := (k)) (k + 1) (by first | omega | (simp only []; omega)) (by first | omega | (simp only []; omega)) (Sub.cons rfl (Sub.cons (look_eq rfl (by rw [hst])) (Sub.cons rfl (Sub.cons rfl (Sub.cons rfl (Sub.cons rfl (Sub.cons rfl (Sub.nil _)))))))) (fun w hw => Keep.mem hw)
  ·
   try simp only [Z0, Z1, Z2, Z3, Z4, Z5, Z6, Z7, Z8, Z9] at h1
   obtain rfl : k = l.xs.length := by omega
   have hbb : bestR (txs l.xs) i = bestP (txs l.xs) i l.xs.length := by rw [bestP_all, htl]
   refine cw_exit ?_
   refine ex_pass_exit ?_
   refine ex_pass_exit ?_
   refine ex_block_hit ?_
   refine ex_then ?_
   refine cw_seq ?_
   refine cw_seq ?_
   refine cw_region ?_
   refine sq_r (ry_move rfl) ?_
   refine sq_nil ?_
   refine ex_then ?_
   refine cw_cond rfl (fun h3 => ?_) (fun h3 => ?_)
   ·
    try simp only [Z0, Z1, Z2, Z3, Z4, Z5, Z6, Z7, Z8, Z9] at h3
    have hE := nw_best (l := (txs l.xs)) (i := i) (by omega) (hbb.trans h3)
    rw [hgy] at hE
    refine cw_seq ?_
    refine cw_lin [3] [[], [], [], [], [3]] [0, 1, 2, 3, 4] [blk b7 (rtcells x24) 147] (fun _ hw => Keep.mem hw) (by kernel_rfl) (by kernel_rfl) ?_
    refine ln_r rfl (ry_move rfl) ?_
    refine ln_r rfl (ry_whole rfl) ?_
    refine ln_r rfl (ry_assign rfl) ?_
    refine ln_st rfl (st_storeW rfl rfl ⟨fun _ hw => Keep.mem hw, ?_⟩)
    refine ln_r rfl (ry_assign rfl) ?_
    refine ln_nil ?_
    refine ex_then ?_
    refine cw_ret ?_
    refine ex_pass_ret ?_
    refine ex_block_ret ?_
    refine ex_pass_ret ?_
    refine ex_pass_ret ?_
    refine ex_block_ret ?_
    refine ex_pass_ret ?_
    refine ex_ret (.inl rfl) (res_3 rfl (rv_tmp rfl) (rv_agg rfl) (rv_tmp rfl)) (fun w1 hw => ?_)
    exact ⟨x24, by rw [hE], by rw [hE]; exact hp24, Keep.mem hw⟩
   ·
    try simp only [Z0, Z1, Z2, Z3, Z4, Z5, Z6, Z7, Z8, Z9] at h3
    have hnb : bestR (txs l.xs) i = false := hbb.trans h3
    refine cw_skip ?_
    refine ex_then ?_
    refine cw_region ?_
    refine sq_r (ry_move rfl) ?_
    refine sq_r (ry_move rfl) ?_
    refine sq_gt rfl rfl rfl (fun hg => (Ry.yl (ry_move rfl))) ?_
    refine sq_gt rfl rfl rfl (fun hg => (Ry.yl (ry_move rfl))) ?_
    refine sq_gt rfl rfl rfl (fun hg => (Ry.yl (ry_idxH (ev_c hg rfl) (ev_c hg rfl) i rfl (by omega)))) ?_
    refine sq_gt rfl rfl rfl (fun hg => (Ry.yl (ry_elemcH (j := 0) (ev_c hg rfl) i hy rfl (by decide)))) ?_
    refine sq_gt rfl rfl rfl (fun hg => yl_callC (evl_cons (ev_c hg rfl) evl_nil) trivial) ?_
    refine sq_r (ry_and rfl rfl rfl) ?_
    refine sq_r (ry_assign rfl) ?_
    refine sq_nil ?_
    refine ex_block ?_
    refine ex_then ?_
    refine cw_region ?_
    refine sq_r (ry_move rfl) ?_
    refine sq_r (ry_add rfl rfl (by omega)) ?_
    refine sq_r (ry_assign rfl) ?_
    refine sq_nil ?_
    exact ex_again (x := (i)) (i + 1) ⟨by first | omega | (simp only []; omega), fun j hj => if e : j = i then e ▸ hnb else hi2 j (by first | omega | (simp only []; omega))⟩ (by first | omega | (simp only []; omega)) (Sub.cons rfl (Sub.cons (look_eq rfl (by rw [habn])) (Sub.cons rfl (Sub.cons rfl (Sub.nil _))))) (fun w hw => Keep.mem hw)
 ·
  try simp only [Z0, Z1, Z2, Z3, Z4, Z5, Z6, Z7, Z8, Z9] at h0
  obtain rfl : i = l.xs.length := by omega
  have hz := nw_none (l := (txs l.xs)) (fun j hj => hi2 j (by omega))
  have habz : (((txs l.xs).take l.xs.length).all blankF) = (txs l.xs).all blankF := by rw [← htl, List.take_length]
  refine cw_exit ?_
  refine ex_pass_exit ?_
  refine ex_pass_exit ?_
  refine ex_block_hit ?_
  refine ex_then ?_
  refine cw_seq ?_
  refine cw_seq ?_
  refine cw_region ?_
  refine sq_r (ry_move rfl) ?_
  refine sq_nil ?_
  refine ex_then ?_
  refine cw_cond rfl (fun h4 => ?_) (fun h4 => ?_)
  ·
   try simp only [Z0, Z1, Z2, Z3, Z4, Z5, Z6, Z7, Z8, Z9] at h4
   have hE : nwF (txs l.xs) = (0, zRV, 6) := by rw [hz, if_pos (habz ▸ h4)]
   refine cw_seq ?_
   refine cw_region ?_
   refine sq_r (ry_build (v := .agg (rtcells zRts)) rfl (fun w => by kernel_rfl)) ?_
   refine sq_r (ry_assign rfl) ?_
   refine sq_storeW rfl rfl ?_
   refine sq_r (ry_assign rfl) ?_
   refine sq_nil ?_
   refine ex_then ?_
   refine cw_ret ?_
   refine ex_pass_ret ?_
   refine ex_ret (.inl rfl) (res_3 rfl (rv_tmp rfl) (rv_agg rfl) (rv_tmp rfl)) (fun w1 hw => ?_)
   exact ⟨zRts, by rw [hE], by rw [hE]; rfl, Mem.nilOwn iec 1 (Keep.mem hw : Mem w [] _)⟩
  ·
   try simp only [Z0, Z1, Z2, Z3, Z4, Z5, Z6, Z7, Z8, Z9] at h4
   have hE : nwF (txs l.xs) = (0, zRV, 2) := by rw [hz, if_neg (by rw [← habz, h4]; simp)]
   refine cw_skip ?_
   refine ex_then ?_
   refine cw_seq ?_
   refine cw_region ?_
   refine sq_r (ry_build (v := .agg (rtcells zRts)) rfl (fun w => by kernel_rfl)) ?_
   refine sq_r (ry_assign rfl) ?_
   refine sq_storeW rfl rfl ?_
   refine sq_r (ry_assign rfl) ?_
   refine sq_nil ?_
   refine ex_then ?_
   refine cw_ret ?_
   refine ex_ret (.inl rfl) (res_3 rfl (rv_tmp rfl) (rv_agg rfl) (rv_tmp rfl)) (fun w1 hw => ?_)
   exact ⟨zRts, by rw [hE], by rw [hE]; rfl, Mem.nilOwn iec 1 (Keep.mem hw : Mem w [] _)⟩
instance rrtnew_i {w0 : World} {L : List Ent} {l : Sl (Sl UInt8)} [hl : HdD w0 L l] : FnC Tryz.prog 94 w0 L [l.sv.val] (Rts) (fun zz => .tuple #[.int .i64 ((nwF (txs l.xs)).1), .agg (rtcells zz), .int .i64 ((nwF (txs l.xs)).2.2)]) (fun zz => own iec 1 zz.at_.sv zz.at_.xs :: L) (fun zz => rvv zz = (nwF (txs l.xs)).2.1) (True) := ⟨fun hp w hw => (rrtnew_c w l (hl.h w hw)).mono fun e w' ⟨x, h1, h2, h3⟩ => ⟨x, h1, h2, hw.call h3⟩⟩

end Go.Proofs.YtaipiecplldinaaGreat

/- Pages of two blocks; numbers compared. -/
namespace Go.Proofs.YtaipiecplldinaaGreat
open Go.Eng Go.Kb
open Go.RowKit
theorem growP_c (w : World) (n : Nat)  (hpre : n ≤ 1000000000) : Calls Tryz.prog 131 #[.slice none 0 0, .int .i64 (n : Nat)] w fun e w' => ∃ zz : Sv, e = .returned (zz.val) ∧ (True) ∧ Mem w [own (scells (τ := UInt8)) 1 zz ([] : List (Sl UInt8))] w' := by
 refine calls_of (args := [_, _]) Tryz.func131 rfl Tryz.ntmps131 rfl ?_
 change Cw _ _ _ _ _ [(0, .slice none 0 0), (1, .int .i64 (n : Nat))] []
 refine cw_seq ?_
 refine cw_region ?_
 refine sq_r (ry_assign rfl) ?_
 refine sq_nil ?_
 refine ex_then ?_
 refine cw_seq ?_
 refine cw_seq ?_
 refine cw_region ?_
 refine sq_r (ry_move rfl) ?_
 refine sq_r (ry_int rfl rfl rfl) ?_
 refine sq_nil ?_
 refine ex_then ?_
 refine cw_cond rfl (fun h0 => ?_) (fun h0 => ?_)
 ·
  try simp only [Z0, Z1, Z2, Z3, Z4, Z5, Z6, Z7, Z8, Z9] at h0
  exfalso; omega
 ·
  try simp only [Z0, Z1, Z2, Z3, Z4, Z5, Z6, Z7, Z8, Z9] at h0
  refine cw_skip ?_
  refine ex_then ?_
  refine cw_seq ?_
  refine cw_seq ?_
  refine cw_region ?_
  refine sq_r (ry_move rfl) ?_
  refine sq_r (ry_move rfl) ?_
  refine sq_r (ry_capN rfl) ?_
  refine sq_r (ry_move rfl) ?_
  refine sq_r (ry_len_slice rfl) ?_
  refine sq_r (ry_sub rfl rfl (by omega)) ?_
  refine sq_r (ry_sub rfl rfl (by omega)) ?_
  refine sq_r (ry_assign rfl) ?_
  refine sq_nil ?_
  refine ex_then ?_
  refine cw_seq ?_
  refine cw_region ?_
  refine sq_r (ry_move rfl) ?_
  refine sq_r (ry_int rfl rfl rfl) ?_
  refine sq_nil ?_
  refine ex_then ?_
  refine cw_cond rfl (fun h1 => ?_) (fun h1 => ?_)
  ·
   try simp only [Z0, Z1, Z2, Z3, Z4, Z5, Z6, Z7, Z8, Z9] at h1
   refine cw_region ?_
   refine sq_r (ry_move rfl) ?_
   refine sq_r (ry_move rfl) ?_
   refine sq_r (ry_capN rfl) ?_
   refine sq_r (Ry.to (v' := .slice none 0 0) (ry_subS_hi (s := Sv.none) (h := 0) rfl rfl rfl Sv.none_ok (Nat.le_refl _)) rfl) ?_
   refine sq_r (ry_move rfl) ?_
   refine sq_appendN (enc := (scells (τ := UInt8))) (k := n) (⟨Sv.none, []⟩ : Sl UInt8) rfl rfl (by omega) (by omega) (by decide) rfl Tryz.underlying3 (by omega) (by omega) fun b22 C22 hC22 => ?_
   refine sq_r (ry_move rfl) ?_
   refine sq_r (ry_len_slice rfl) ?_
   refine sq_r (ry_subS_hi (s := ⟨false, b22, 0, n, C22, none⟩) (h := 0) rfl rfl rfl ⟨(fun h => by cases h), hC22, by simp only; omega, fun _ => rfl⟩ (Nat.zero_le _)) ?_
   refine sq_r (ry_assign rfl) ?_
   refine sq_nil ?_
   refine ex_then ?_
   refine cw_seq ?_
   refine cw_region ?_
   refine sq_r (ry_move rfl) ?_
   refine sq_r (ry_assign rfl) ?_
   refine sq_nil ?_
   refine ex_then ?_
   refine cw_ret ?_
   refine ex_ret (.inl rfl) (res_1 rfl (rv_tmp rfl)) (fun w1 hw => ?_)
   refine ⟨Sv.sub ⟨false, b22, 0, n, C22, none⟩ 1 0 0, rfl, trivial, ?_⟩
   have hw2 := Mem.ownTake (i := 0) (k := 0) hw rfl (Nat.zero_le _)
   rw [List.take_zero] at hw2
   exact hw2
  ·
   try simp only [Z0, Z1, Z2, Z3, Z4, Z5, Z6, Z7, Z8, Z9] at h1
   have hn : n = 0 := by omega
   refine cw_skip ?_
   refine ex_then ?_
   refine cw_seq ?_
   refine cw_region ?_
   refine sq_r (ry_move rfl) ?_
   refine sq_r (ry_assign rfl) ?_
   refine sq_nil ?_
   refine ex_then ?_
   refine cw_ret ?_
   refine ex_ret (.inl rfl) (res_1 rfl (rv_tmp rfl)) (fun w1 hw => ?_)
   exact ⟨Sv.none, rfl, trivial, (Keep.mem hw : Mem w [] _).nilOwn (scells (τ := UInt8)) 1⟩
instance growP_i {w0 : World} {L : List Ent} {n : Nat}  : FnC Tryz.prog 131 w0 L [.slice none 0 0, .int .i64 (n : Nat)] (Sv) (fun zz => zz.val) (fun zz => own (scells (τ := UInt8)) 1 zz ([] : List (Sl UInt8)) :: L) (fun zz => True) (n ≤ 1000000000) := ⟨fun hp w hw => (growP_c w n  hp).mono fun e w' ⟨x, h1, h2, h3⟩ => ⟨x, h1, h2, hw.call h3⟩⟩
theorem concatP_c (w : World) (a : Sl (Sl (Sl UInt8))) (ha : Deep.good (hp w) a) (hpre : (flatP a.xs).length ≤ 1000000) : Calls Tryz.prog 90 #[a.sv.val] w fun e w' => ∃ zz : Sv, e = .returned (zz.val) ∧ (True) ∧ Mem w [own (scells (τ := UInt8)) 1 zz (flatP a.xs)] w' := by
 have gha : GvD w a := ⟨ha⟩
 have hab := ha.1.bd
 have hfl := flatP_le a.xs
 refine calls_of (args := [_]) Tryz.func90 rfl Tryz.ntmps90 rfl ?_
 change Cw _ _ _ _ _ [(0, a.sv.val)] []
 refine cw_seq ?_
 refine cw_region ?_
 refine sq_r (ry_assign rfl) ?_
 refine sq_nil ?_
 refine ex_then ?_
 refine cw_seq ?_
 refine cw_region ?_
 refine sq_r (ry_assign rfl) ?_
 refine sq_nil ?_
 refine ex_then ?_
 refine cw_seq ?_
 refine cw_seq ?_
 refine cw_region ?_
 refine sq_r (ry_move rfl) ?_
 refine sq_r (ry_lenH rfl) ?_
 refine sq_r (ry_move rfl) ?_
 refine sq_nil ?_
 refine ex_then ?_
 refine cw_block ?_
 refine cw_loop (X := Nat) (fun zz => [(11, .int .i64 (zz : Nat)), (3, .int .i64 ((flatP (a.xs.take zz)).length : Nat)), (0, a.sv.val), (9, a.sv.val), (10, .int .i64 (a.xs.length : Nat))]) (fun zz => []) (fun zz => zz ≤ a.xs.length) (fun zz => a.xs.length - zz) 0 (Nat.zero_le _) (Sub.cons rfl (Sub.cons rfl (Sub.cons rfl (Sub.cons rfl (Sub.cons rfl (Sub.nil _)))))) (fun w hw => Keep.mem hw) ?_
 rintro i hi
 have hf1 := hfl i
 have hf2 := hfl (i + 1)
 refine cw_seq ?_
 refine cw_region ?_
 refine sq_r (ry_int rfl rfl rfl) ?_
 refine sq_nil ?_
 refine ex_then ?_
 refine cw_seq ?_
 refine cw_cond rfl (fun h0 => ?_) (fun h0 => ?_)
 ·
  try simp only [Z0, Z1, Z2, Z3, Z4, Z5, Z6, Z7, Z8, Z9] at h0
  refine cw_skip ?_
  refine ex_then ?_
  refine cw_seq ?_
  refine cw_block ?_
  refine cw_seq ?_
  refine cw_region ?_
  obtain ⟨x, hx⟩ := get_some (xs := a.xs) (i := i) (by omega)
  refine sq_r (ry_idxH rfl rfl i rfl (by omega)) ?_
  refine sq_r (ry_elemcH (j := 0) rfl i hx rfl (by decide)) ?_
  have hfx : (flatP (a.xs.take (i + 1))).length = (flatP (a.xs.take i)).length + x.xs.length := by rw [flatP_snoc hx, List.length_append]
  have mb14 : Mb x _ := ⟨List.mem_of_getElem? hx⟩
  refine sq_r (ry_assign rfl) ?_
  refine sq_nil ?_
  refine ex_then ?_
  refine cw_seq ?_
  refine cw_region ?_
  refine sq_r (ry_move rfl) ?_
  refine sq_r (ry_move rfl) ?_
  refine sq_r (ry_lenH rfl) ?_
  refine sq_r (ry_add rfl rfl (by omega)) ?_
  refine sq_r (ry_assign rfl) ?_
  refine sq_nil ?_
  refine ex_then ?_
  refine cw_seq ?_
  refine cw_region ?_
  refine sq_r (ry_move rfl) ?_
  refine sq_r (ry_int rfl rfl rfl) ?_
  refine sq_nil ?_
  refine ex_then ?_
  refine cw_cond rfl (fun h1 => ?_) (fun h1 => ?_)
  ·
   try simp only [Z0, Z1, Z2, Z3, Z4, Z5, Z6, Z7, Z8, Z9] at h1
   exfalso; omega
  ·
   try simp only [Z0, Z1, Z2, Z3, Z4, Z5, Z6, Z7, Z8, Z9] at h1
   refine cw_skip ?_
   refine ex_block ?_
   refine ex_then ?_
   refine cw_region ?_
   refine sq_r (ry_add rfl rfl (by omega)) ?_
   refine sq_r (ry_move rfl) ?_
   refine sq_nil ?_
   exact ex_again (x := (i)) (i + 1) (by first | omega | (simp only []; omega)) (by first | omega | (simp only []; omega)) (Sub.cons rfl (Sub.cons (look_eq rfl (by rw [flatP_snoc hx, List.length_append]; simp)) (Sub.cons rfl (Sub.cons rfl (Sub.cons rfl (Sub.nil _)))))) (fun w hw => Keep.mem hw)
 ·
  try simp only [Z0, Z1, Z2, Z3, Z4, Z5, Z6, Z7, Z8, Z9] at h0
  obtain rfl : i = a.xs.length := by omega
  have hf0 := hfl a.xs.length
  refine cw_exit ?_
  refine ex_pass_exit ?_
  refine ex_pass_exit ?_
  refine ex_block_hit ?_
  refine ex_then ?_
  refine cw_seq ?_
  refine cw_region ?_
  refine sq_r (ry_move rfl) ?_
  refine sq_callC rfl (by omega) fun x24 hp24 => ?_
  refine sq_r (ry_assign rfl) ?_
  refine sq_nil ?_
  refine ex_then ?_
  refine cw_seq ?_
  refine cw_seq ?_
  refine cw_region ?_
  refine sq_r (ry_move rfl) ?_
  refine sq_r (ry_lenH rfl) ?_
  refine sq_r (ry_move rfl) ?_
  refine sq_nil ?_
  refine ex_then ?_
  refine cw_block ?_
  refine cw_loop (X := Nat × Sv) (fun zz => [(27, .int .i64 (zz.1 : Nat)), (6, zz.2.val), (25, a.sv.val), (26, .int .i64 (a.xs.length : Nat))]) (fun zz => [own (scells (τ := UInt8)) 1 zz.2 (flatP (a.xs.take zz.1))]) (fun zz => zz.1 ≤ a.xs.length) (fun zz => a.xs.length - zz.1) (0, x24) (Nat.zero_le _) (Sub.cons rfl (Sub.cons rfl (Sub.cons rfl (Sub.cons rfl (Sub.nil _))))) (fun w hw => (Keep.mem hw : Mem _ [own (scells (τ := UInt8)) 1 x24 ([] : List (Sl UInt8))] _)) ?_
  rintro ⟨k, s1⟩ hk
  dsimp only
  simp only at hk
  have hf1 := hfl k
  have hf2 := hfl (k + 1)
  refine cw_seq ?_
  refine cw_region ?_
  refine sq_r (ry_int rfl rfl rfl) ?_
  refine sq_nil ?_
  refine ex_then ?_
  refine cw_seq ?_
  refine cw_cond rfl (fun h2 => ?_) (fun h2 => ?_)
  ·
   try simp only [Z0, Z1, Z2, Z3, Z4, Z5, Z6, Z7, Z8, Z9] at h2
   refine cw_skip ?_
   refine ex_then ?_
   refine cw_seq ?_
   refine cw_block ?_
   refine cw_seq ?_
   refine cw_region ?_
   obtain ⟨y, hy⟩ := get_some (xs := a.xs) (i := k) (by omega)
   refine sq_r (ry_idxH rfl rfl k rfl (by omega)) ?_
   refine sq_r (ry_elemcH (j := 0) rfl k hy rfl (by decide)) ?_
   have hfy : (flatP (a.xs.take (k + 1))).length = (flatP (a.xs.take k)).length + y.xs.length := by rw [flatP_snoc hy, List.length_append]
   have mb30 : Mb y _ := ⟨List.mem_of_getElem? hy⟩
   refine sq_r (ry_assign rfl) ?_
   refine sq_nil ?_
   refine ex_then ?_
   refine cw_region ?_
   refine sq_r (ry_move rfl) ?_
   refine sq_r (ry_move rfl) ?_
   refine sq_append (s := s1) (enc := (scells (τ := UInt8))) (ys := y.xs) rfl rfl (by decide) (fun w hw => src_rows (s := y.sv) Tryz.underlying46 (by decide) ((inferInstance : HdE _ _ (scells (τ := UInt8)) 1 y.sv y.xs).h w hw)) (by omega) (by omega) fun s33 hs33 hl33 => ?_
   refine sq_r (ry_assign rfl) ?_
   refine sq_nil ?_
   refine ex_block ?_
   refine ex_then ?_
   refine cw_region ?_
   refine sq_r (ry_add rfl rfl (by omega)) ?_
   refine sq_r (ry_move rfl) ?_
   refine sq_nil ?_
   exact ex_again (x := (k, s1)) (k + 1, s33) (by simp only; omega) (by simp only; omega) (Sub.cons rfl (Sub.cons rfl (Sub.cons rfl (Sub.cons rfl (Sub.nil _))))) (fun w hw => by rw [flatP_snoc hy]; exact Keep.mem hw)
  ·
   try simp only [Z0, Z1, Z2, Z3, Z4, Z5, Z6, Z7, Z8, Z9] at h2
   obtain rfl : k = a.xs.length := by omega
   refine cw_exit ?_
   refine ex_pass_exit ?_
   refine ex_pass_exit ?_
   refine ex_block_hit ?_
   refine ex_then ?_
   refine cw_seq ?_
   refine cw_region ?_
   refine sq_r (ry_move rfl) ?_
   refine sq_r (ry_assign rfl) ?_
   refine sq_nil ?_
   refine ex_then ?_
   refine cw_ret ?_
   refine ex_ret (.inl rfl) (res_1 rfl (rv_tmp rfl)) (fun w1 hw => ?_)
   exact ⟨s1, rfl, trivial, by rw [List.take_length] at hw; exact Keep.mem hw⟩
instance concatP_i {w0 : World} {L : List Ent} {a : Sl (Sl (Sl UInt8))} [ha : HdD w0 L a] : FnC Tryz.prog 90 w0 L [a.sv.val] (Sv) (fun zz => zz.val) (fun zz => own (scells (τ := UInt8)) 1 zz (flatP a.xs) :: L) (fun zz => True) ((flatP a.xs).length ≤ 1000000) := ⟨fun hp w hw => (concatP_c w a (ha.h w hw) hp).mono fun e w' ⟨x, h1, h2, h3⟩ => ⟨x, h1, h2, hw.call h3⟩⟩
theorem equalN_c (w : World) (x : Sv) (xs : List Int) (y : Sv) (ys : List Int) (hx : Lies iec 1 (hp w) x xs) (hy : Lies iec 1 (hp w) y ys) : Calls Tryz.prog 52 #[x.val, y.val] w fun e w' => e = .returned (.bool (decide (xs = ys))) ∧ Mem w [] w' := by
 have ghx : Gv w x iec 1 xs := ⟨hx⟩
 have ghy : Gv w y iec 1 ys := ⟨hy⟩
 have hbx := hx.bd
 refine calls_of (args := [_, _]) Tryz.func52 rfl Tryz.ntmps52 rfl ?_
 change Cw _ _ _ _ _ [(0, x.val), (1, y.val)] []
 refine cw_seq ?_
 refine cw_region ?_
 refine sq_r (ry_assign rfl) ?_
 refine sq_nil ?_
 refine ex_then ?_
 refine cw_seq ?_
 refine cw_seq ?_
 refine cw_region ?_
 refine sq_r (ry_move rfl) ?_
 refine sq_r (ry_lenH rfl) ?_
 refine sq_r (ry_move rfl) ?_
 refine sq_r (ry_lenH rfl) ?_
 refine sq_r (ry_int rfl rfl rfl) ?_
 refine sq_nil ?_
 refine ex_then ?_
 refine cw_cond rfl (fun h0 => ?_) (fun h0 => ?_)
 ·
  try simp only [Z0, Z1, Z2, Z3, Z4, Z5, Z6, Z7, Z8, Z9] at h0
  have hz : decide (xs = ys) = false := decide_eq_false fun e => h0 (by rw [e])
  refine cw_seq ?_
  refine cw_region ?_
  refine sq_r (ry_assign rfl) ?_
  refine sq_nil ?_
  refine ex_then ?_
  refine cw_ret ?_
  refine ex_pass_ret ?_
  refine ex_ret (.inl rfl) (res_1 rfl (rv_tmp rfl)) (fun w1 hw => ?_)
  exact ⟨congrArg (fun b => Ending.returned (Value.bool b)) (hz.symm), Keep.mem hw⟩
 ·
  try simp only [Z0, Z1, Z2, Z3, Z4, Z5, Z6, Z7, Z8, Z9] at h0
  have hll : xs.length = ys.length := by omega
  refine cw_skip ?_
  refine ex_then ?_
  refine cw_seq ?_
  refine cw_seq ?_
  refine cw_region ?_
  refine sq_r (ry_move rfl) ?_
  refine sq_r (ry_lenH rfl) ?_
  refine sq_r (ry_move rfl) ?_
  refine sq_nil ?_
  refine ex_then ?_
  refine cw_block ?_
  refine cw_loop (X := Nat) (fun zz => [(13, .int .i64 (zz : Nat)), (0, x.val), (1, y.val), (12, .int .i64 (xs.length : Nat))]) (fun zz => []) (fun zz => zz ≤ xs.length ∧ ∀ j, j < zz → xs[j]? = ys[j]?) (fun zz => xs.length - zz) 0 ⟨Nat.zero_le _, fun j hj => by first | omega | (simp only []; omega)⟩ (Sub.cons rfl (Sub.cons rfl (Sub.cons rfl (Sub.cons rfl (Sub.nil _))))) (fun w hw => Keep.mem hw) ?_
  rintro i ⟨hi1, hi2⟩
  refine cw_seq ?_
  refine cw_region ?_
  refine sq_r (ry_int rfl rfl rfl) ?_
  refine sq_nil ?_
  refine ex_then ?_
  refine cw_seq ?_
  refine cw_cond rfl (fun h1 => ?_) (fun h1 => ?_)
  ·
   try simp only [Z0, Z1, Z2, Z3, Z4, Z5, Z6, Z7, Z8, Z9] at h1
   obtain ⟨p, hpx⟩ := get_some (xs := xs) (i := i) (by omega)
   obtain ⟨q, hqy⟩ := get_some (xs := ys) (i := i) (by omega)
   refine cw_skip ?_
   refine ex_then ?_
   refine cw_seq ?_
   refine cw_block ?_
   refine cw_seq ?_
   refine cw_region ?_
   refine sq_r (ry_move rfl) ?_
   refine sq_r (ry_assign rfl) ?_
   refine sq_nil ?_
   refine ex_then ?_
   refine cw_seq ?_
   refine cw_quiet (by kernel_rfl) (by kernel_rfl) ?_
   refine qt_r (ry_move rfl) ?_
   refine qt_r (ry_move rfl) ?_
   refine qt_r (ry_idxH rfl rfl i rfl (by omega)) ?_
   refine qt_r (ry_elemcH (j := 0) rfl i hpx rfl (by decide)) ?_
   refine qt_r (ry_move rfl) ?_
   refine qt_r (ry_move rfl) ?_
   refine qt_r (ry_idxH rfl rfl i rfl (by omega)) ?_
   refine qt_r (ry_elemcH (j := 0) rfl i hqy rfl (by decide)) ?_
   refine qt_r (ry_int rfl rfl rfl) ?_
   refine qt_nil ?_
   refine ex_then ?_
   refine cw_cond rfl (fun h2 => ?_) (fun h2 => ?_)
   ·
    try simp only [Z0, Z1, Z2, Z3, Z4, Z5, Z6, Z7, Z8, Z9] at h2
    have hz : decide (xs = ys) = false := decide_eq_false fun e => h2 (by rw [e] at hpx; rw [hpx] at hqy; cases hqy; rfl)
    refine cw_seq ?_
    refine cw_region ?_
    refine sq_r (ry_assign rfl) ?_
    refine sq_nil ?_
    refine ex_then ?_
    refine cw_ret ?_
    refine ex_block_ret ?_
    refine ex_pass_ret ?_
    refine ex_pass_ret ?_
    refine ex_block_ret ?_
    refine ex_pass_ret ?_
    refine ex_ret (.inl rfl) (res_1 rfl (rv_tmp rfl)) (fun w1 hw => ?_)
    exact ⟨congrArg (fun b => Ending.returned (Value.bool b)) (hz.symm), Keep.mem hw⟩
   ·
    try simp only [Z0, Z1, Z2, Z3, Z4, Z5, Z6, Z7, Z8, Z9] at h2
    refine cw_skip ?_
    refine ex_block ?_
    refine ex_then ?_
    refine cw_region ?_
    refine sq_r (ry_add rfl rfl (by omega)) ?_
    refine sq_r (ry_move rfl) ?_
    refine sq_nil ?_
    exact ex_again (x := (i)) (i + 1) ⟨by first | omega | (simp only []; omega), fun j hj => if e : j = i then (by subst e; rw [hpx, hqy, h2]) else hi2 j (by first | omega | (simp only []; omega))⟩ (by first | omega | (simp only []; omega)) (Sub.cons rfl (Sub.cons rfl (Sub.cons rfl (Sub.cons rfl (Sub.nil _))))) (fun w hw => Keep.mem hw)
  ·
   try simp only [Z0, Z1, Z2, Z3, Z4, Z5, Z6, Z7, Z8, Z9] at h1
   obtain rfl : i = xs.length := by omega
   have hz : decide (xs = ys) = true := decide_eq_true (List.ext_getElem? fun j => by
    rcases Nat.lt_or_ge j xs.length with hj | hj
    ·
     exact hi2 j hj
    ·
     rw [List.getElem?_eq_none hj, List.getElem?_eq_none (by omega)])
   refine cw_exit ?_
   refine ex_pass_exit ?_
   refine ex_pass_exit ?_
   refine ex_block_hit ?_
   refine ex_then ?_
   refine cw_seq ?_
   refine cw_region ?_
   refine sq_r (ry_assign rfl) ?_
   refine sq_nil ?_
   refine ex_then ?_
   refine cw_ret ?_
   refine ex_ret (.inl rfl) (res_1 rfl (rv_tmp rfl)) (fun w1 hw => ?_)
   exact ⟨congrArg (fun b => Ending.returned (Value.bool b)) (hz.symm), Keep.mem hw⟩
instance equalN_i {w0 : World} {L : List Ent} {x : Sv} {xs : List Int} {y : Sv} {ys : List Int} [hx : HdE w0 L iec 1 x xs] [hy : HdE w0 L iec 1 y ys] : FnQ Tryz.prog 52 w0 L [x.val, y.val] (.bool (decide (xs = ys))) (True) := ⟨fun hp w hw => equalN_c w x xs y ys (hx.h w hw) (hy.h w hw)⟩

end Go.Proofs.YtaipiecplldinaaGreat

/- The newest root. -/
namespace Go.Proofs.YtaipiecplldinaaGreat
open Go.Eng Go.Kb
open Go.RowKit
theorem rtnew_c (w : World) (l : Sl (Sl UInt8)) (hl : Deep.good (hp w) l) : Calls Tryz.prog 89 #[l.sv.val] w fun e w' => ∃ zz : Rts, e = .returned (.tuple #[.int .i64 ((nwF (txs l.xs)).1), .agg (rtcells zz), .int .i64 ((nwF (txs l.xs)).2.2)]) ∧ (rvv zz = (nwF (txs l.xs)).2.1) ∧ Mem w [own iec 1 zz.at_.sv zz.at_.xs] w' := by
 have ghl : GvD w l := ⟨hl⟩
 have hbd := hl.1.bd
 have htl := txs_length l.xs
 refine calls_of (args := [_]) Tryz.func89 rfl Tryz.ntmps89 rfl ?_
 change Cw _ _ _ _ _ [(0, l.sv.val)] []
 refine cw_seq ?_
 refine cw_region ?_
 refine sq_r (ry_assign rfl) ?_
 refine sq_allocA fun b3 => ?_
 refine sq_r (ry_assign rfl) ?_
 refine sq_nil ?_
 refine ex_then ?_
 refine cw_seq ?_
 refine cw_region ?_
 refine sq_r (ry_build (v := .agg (rtcells zRts)) rfl (fun w => by kernel_rfl)) ?_
 refine sq_allocA fun b6 => ?_
 refine sq_r (ry_assign rfl) ?_
 refine sq_storeW rfl rfl ?_
 refine sq_r (ry_assign rfl) ?_
 refine sq_r (ry_assign rfl) ?_
 refine sq_nil ?_
 refine ex_then ?_
 refine cw_seq ?_
 refine cw_seq ?_
 refine cw_region ?_
 refine sq_r (ry_move rfl) ?_
 refine sq_r (ry_lenH rfl) ?_
 refine sq_r (ry_move rfl) ?_
 refine sq_nil ?_
 refine ex_then ?_
 refine cw_block ?_
 refine cw_loop (X := Nat × Rts) (fun zz => [(16, .int .i64 (zz.1 : Nat)), (5, .int .i64 ((newS (txs l.xs) zz.1).at_)), (6, .pointer (some ⟨b6, 0, none⟩)), (7, .bool ((newS (txs l.xs) zz.1).found)), (8, .bool ((newS (txs l.xs) zz.1).blank)), (3, .pointer (some ⟨b3, 0, none⟩)), (14, l.sv.val), (15, .int .i64 (l.xs.length : Nat))]) (fun zz => [blk b6 (rtcells zz.2) 147, own iec 1 zz.2.at_.sv zz.2.at_.xs, blk b3 (rtcells zRts) 147]) (fun zz => zz.1 ≤ l.xs.length ∧ rvv zz.2 = (newS (txs l.xs) zz.1).new) (fun zz => l.xs.length - zz.1) (0, zRts) ⟨Nat.zero_le _, rfl⟩ (Sub.cons rfl (Sub.cons rfl (Sub.cons rfl (Sub.cons rfl (Sub.cons rfl (Sub.cons rfl (Sub.cons rfl (Sub.cons rfl (Sub.nil _))))))))) (fun w hw => by
  have h9 : Mem _ [blk b6 (rtcells zRts) 147, own iec 1 Sv.none [], blk b3 (rtcells zRts) 147] _ := Keep.mem (Mem.nilOwn iec 1 hw)
  exact h9) ?_
 rintro ⟨i, d⟩ ⟨hi1, hi2⟩
 dsimp only
 simp only at hi1 hi2
 refine cw_seq ?_
 refine cw_region ?_
 refine sq_r (ry_int rfl rfl rfl) ?_
 refine sq_nil ?_
 refine ex_then ?_
 refine cw_seq ?_
 refine cw_cond rfl (fun h0 => ?_) (fun h0 => ?_)
 ·
  try simp only [Z0, Z1, Z2, Z3, Z4, Z5, Z6, Z7, Z8, Z9] at h0
  obtain ⟨y, hy⟩ := get_some (xs := l.xs) (i := i) (by omega)
  have mby : Mb y l := ⟨List.mem_of_getElem? hy⟩
  have hty := txs_get hy
  have hdg : d.gen.toNat = (newS (txs l.xs) i).new.gen := congrArg RV.gen hi2
  refine cw_skip ?_
  refine ex_then ?_
  refine cw_seq ?_
  refine cw_block ?_
  refine cw_seq ?_
  refine cw_region ?_
  refine sq_r (ry_move rfl) ?_
  refine sq_r (ry_idxH rfl rfl i rfl (by omega)) ?_
  refine sq_r (ry_elemcH (j := 0) rfl i hy rfl (by decide)) ?_
  refine sq_r (ry_assign rfl) ?_
  refine sq_r (ry_assign rfl) ?_
  refine sq_nil ?_
  refine ex_then ?_
  refine cw_seq ?_
  refine cw_region ?_
  refine sq_r (ry_move rfl) ?_
  refine sq_r (ry_move rfl) ?_
  refine sq_gt rfl rfl rfl (fun hg => (Ry.yl (ry_move rfl))) ?_
  refine sq_gt rfl rfl rfl (fun hg => yl_callC (evl_cons (ev_c hg rfl) evl_nil) trivial) ?_
  refine sq_r (ry_and rfl rfl rfl) ?_
  refine sq_r (ry_assign rfl) ?_
  refine sq_nil ?_
  refine ex_then ?_
  refine cw_seq ?_
  refine cw_region ?_
  refine sq_r (ry_move rfl) ?_
  refine sq_callC rfl trivial fun x28 hp28 => ?_
  have h28 : x28.gen.toNat = (rreadF y.xs).1.gen := congrArg RV.gen hp28
  refine sq_r (ry_move rfl) ?_
  refine sq_r (ry_extract (v := .agg (rtcells x28)) rfl rfl) ?_
  refine sq_r (ry_extract (v := .int .i64 ((rreadF y.xs).2)) rfl rfl) ?_
  refine sq_allocA fun b11 => ?_
  refine sq_storeW rfl rfl ?_
  refine sq_r (ry_assign rfl) ?_
  refine sq_nil ?_
  refine ex_then ?_
  refine cw_seq ?_
  refine cw_region ?_
  refine sq_r (ry_move rfl) ?_
  refine sq_r (ry_int rfl rfl rfl) ?_
  refine sq_r (ry_move rfl) ?_
  refine sq_gt rfl rfl rfl (fun hg => (Ry.yl (ry_move rfl))) ?_
  refine sq_gt rfl rfl rfl (fun hg => (Ry.yl (ry_not (ev_c hg rfl)))) ?_
  refine sq_gt rfl rfl rfl (fun hg => (Ry.yl (ry_move (ev_c hg rfl)))) ?_
  refine sq_nf rfl rfl rfl (fun hg => (Ry.yl (ry_field (o' := 0) rfl rfl))) ?_
  refine sq_nf rfl rfl rfl (fun hg => (Ry.yl (ry_cellc (ev_c hg rfl)))) ?_
  refine sq_nf rfl rfl rfl (fun hg => (Ry.yl (ry_field (o' := 0) rfl rfl))) ?_
  refine sq_nf rfl rfl rfl (fun hg => (Ry.yl (ry_cellc (ev_c hg rfl)))) ?_
  refine sq_nf rfl rfl rfl (fun hg => (Ry.yl (ry_int (ev_c hg rfl) (ev_c hg rfl) rfl))) ?_
  refine sq_gt rfl rfl rfl (fun hg => (Ry.yl (ry_or (ev_c hg rfl) rfl (ev_cc hg rfl)))) ?_
  refine sq_r (ry_and rfl rfl rfl) ?_
  refine sq_nil ?_
  refine ex_then ?_
  refine cw_cond rfl (fun h1 => ?_) (fun h1 => ?_)
  ·
   try simp only [Z0, Z1, Z2, Z3, Z4, Z5, Z6, Z7, Z8, Z9] at h1
   have hq : (rreadF y.xs).2 = 0 ∧ ((newS (txs l.xs) i).found = false ∨ (newS (txs l.xs) i).new.gen ≤ (rreadF y.xs).1.gen) := ⟨h1.1, h1.2.imp (fun h => h) (fun h => by rw [← hdg, ← h28]; omega)⟩
   have hns := newS_pos hty hq
   refine cw_lin [3] [[], [], [], [], [3]] [0, 1, 2, 3, 4] [blk b11 (rtcells x28) 147] (fun _ hw => Keep.mem hw) (by kernel_rfl) (by kernel_rfl) ?_
   refine ln_r rfl (ry_move rfl) ?_
   refine ln_r rfl (ry_whole rfl) ?_
   refine ln_r rfl (ry_assign rfl) ?_
   refine ln_st rfl (st_storeW rfl rfl ⟨fun _ hw => Keep.mem hw, ?_⟩)
   refine ln_r rfl (ry_assign rfl) ?_
   refine ln_nil ?_
   refine ex_block ?_
   refine ex_then ?_
   refine cw_region ?_
   refine sq_r (ry_add rfl rfl (by omega)) ?_
   refine sq_r (ry_move rfl) ?_
   refine sq_nil ?_
   exact ex_again (x := (i, d)) (i + 1, x28) ⟨by first | omega | (simp only []; omega), by rw [hns]; exact hp28⟩ (by simp only; omega) (Sub.cons rfl (Sub.cons (look_eq rfl (by simp only [hns])) (Sub.cons rfl (Sub.cons (look_eq rfl (by simp only [hns])) (Sub.cons (look_eq rfl (by simp only [hns])) (Sub.cons rfl (Sub.cons rfl (Sub.cons rfl (Sub.nil _))))))))) (fun w hw => Keep.mem hw)
  ·
   try simp only [Z0, Z1, Z2, Z3, Z4, Z5, Z6, Z7, Z8, Z9] at h1
   have hq : ¬ ((rreadF y.xs).2 = 0 ∧ ((newS (txs l.xs) i).found = false ∨ (newS (txs l.xs) i).new.gen ≤ (rreadF y.xs).1.gen)) := fun hq => by
    rw [← hdg, ← h28] at hq
    rcases h1 with h | h
    ·
     exact h hq.1
    ·
     rcases hq.2 with g | g
     ·
      exact absurd (h.1.symm.trans g) (by simp)
     ·
      omega
   have hns := newS_neg hty hq
   refine cw_skip ?_
   refine ex_block ?_
   refine ex_then ?_
   refine cw_region ?_
   refine sq_r (ry_add rfl rfl (by omega)) ?_
   refine sq_r (ry_move rfl) ?_
   refine sq_nil ?_
   exact ex_again (x := (i, d)) (i + 1, d) ⟨by first | omega | (simp only []; omega), by rw [hns]; exact hi2⟩ (by simp only; omega) (Sub.cons rfl (Sub.cons (look_eq rfl (by simp only [hns])) (Sub.cons rfl (Sub.cons (look_eq rfl (by simp only [hns])) (Sub.cons (look_eq rfl (by simp only [hns])) (Sub.cons rfl (Sub.cons rfl (Sub.cons rfl (Sub.nil _))))))))) (fun w hw => Keep.mem hw)
 ·
  try simp only [Z0, Z1, Z2, Z3, Z4, Z5, Z6, Z7, Z8, Z9] at h0
  obtain rfl : i = l.xs.length := by omega
  rw [← htl] at hi2
  refine cw_exit ?_
  refine ex_pass_exit ?_
  refine ex_pass_exit ?_
  refine ex_block_hit ?_
  refine ex_then ?_
  refine cw_seq ?_
  refine cw_block ?_
  refine cw_seq ?_
  refine cw_region ?_
  refine sq_r (ry_move rfl) ?_
  refine sq_r (ry_assign rfl) ?_
  refine sq_nil ?_
  refine ex_then ?_
  refine cw_cond rfl (fun h2 => ?_) (fun h2 => ?_)
  ·
   try simp only [Z0, Z1, Z2, Z3, Z4, Z5, Z6, Z7, Z8, Z9] at h2
   have hE : nwF (txs l.xs) = ((newS (txs l.xs) (txs l.xs).length).at_, (newS (txs l.xs) (txs l.xs).length).new, 0) := by rw [nwF, if_pos (by rw [htl]; exact h2)]
   refine cw_seq ?_
   refine cw_lin [3] [[], [], [], [], [3]] [0, 1, 2, 3, 4] [blk b6 (rtcells d) 147] (fun _ hw => Keep.mem hw) (by kernel_rfl) (by kernel_rfl) ?_
   refine ln_r rfl (ry_move rfl) ?_
   refine ln_r rfl (ry_whole rfl) ?_
   refine ln_r rfl (ry_assign rfl) ?_
   refine ln_st rfl (st_storeW rfl rfl ⟨fun _ hw => Keep.mem hw, ?_⟩)
   refine ln_r rfl (ry_assign rfl) ?_
   refine ln_nil ?_
   refine ex_then ?_
   refine cw_ret ?_
   refine ex_block_ret ?_
   refine ex_pass_ret ?_
   refine ex_ret (.inl rfl) (res_3 rfl (rv_tmp rfl) (rv_agg rfl) (rv_tmp rfl)) (fun w1 hw => ?_)
   exact ⟨d, by rw [hE, htl], by rw [hE]; exact hi2, Keep.mem hw⟩
  ·
   try simp only [Z0, Z1, Z2, Z3, Z4, Z5, Z6, Z7, Z8, Z9] at h2
   refine cw_seq ?_
   refine cw_region ?_
   refine sq_r (ry_move rfl) ?_
   refine sq_r (ry_assign rfl) ?_
   refine sq_nil ?_
   refine ex_then ?_
   refine cw_cond rfl (fun h3 => ?_) (fun h3 => ?_)
   ·
    try simp only [Z0, Z1, Z2, Z3, Z4, Z5, Z6, Z7, Z8, Z9] at h3
    have hE : nwF (txs l.xs) = (0, zRV, 6) := by rw [nwF, if_neg (by rw [htl, h2]; simp), if_pos (by rw [htl]; exact h3)]
    refine cw_seq ?_
    refine cw_region ?_
    refine sq_r (ry_build (v := .agg (rtcells zRts)) rfl (fun w => by kernel_rfl)) ?_
    refine sq_r (ry_assign rfl) ?_
    refine sq_storeW rfl rfl ?_
    refine sq_r (ry_assign rfl) ?_
    refine sq_nil ?_
    refine ex_then ?_
    refine cw_ret ?_
    refine ex_block_ret ?_
    refine ex_pass_ret ?_
    refine ex_ret (.inl rfl) (res_3 rfl (rv_tmp rfl) (rv_agg rfl) (rv_tmp rfl)) (fun w1 hw => ?_)
    exact ⟨zRts, by rw [hE], by rw [hE]; rfl, Mem.nilOwn iec 1 (Keep.mem hw : Mem w [] _)⟩
   ·
    try simp only [Z0, Z1, Z2, Z3, Z4, Z5, Z6, Z7, Z8, Z9] at h3
    have hE : nwF (txs l.xs) = (0, zRV, 2) := by rw [nwF, if_neg (by rw [htl, h2]; simp), if_neg (by rw [htl, h3]; simp)]
    refine cw_skip ?_
    refine ex_block ?_
    refine ex_then ?_
    refine cw_seq ?_
    refine cw_region ?_
    refine sq_r (ry_build (v := .agg (rtcells zRts)) rfl (fun w => by kernel_rfl)) ?_
    refine sq_r (ry_assign rfl) ?_
    refine sq_storeW rfl rfl ?_
    refine sq_r (ry_assign rfl) ?_
    refine sq_nil ?_
    refine ex_then ?_
    refine cw_ret ?_
    refine ex_ret (.inl rfl) (res_3 rfl (rv_tmp rfl) (rv_agg rfl) (rv_tmp rfl)) (fun w1 hw => ?_)
    exact ⟨zRts, by rw [hE], by rw [hE]; rfl, Mem.nilOwn iec 1 (Keep.mem hw : Mem w [] _)⟩
instance rtnew_i {w0 : World} {L : List Ent} {l : Sl (Sl UInt8)} [hl : HdD w0 L l] : FnC Tryz.prog 89 w0 L [l.sv.val] (Rts) (fun zz => .tuple #[.int .i64 ((nwF (txs l.xs)).1), .agg (rtcells zz), .int .i64 ((nwF (txs l.xs)).2.2)]) (fun zz => own iec 1 zz.at_.sv zz.at_.xs :: L) (fun zz => rvv zz = (nwF (txs l.xs)).2.1) (True) := ⟨fun hp w hw => (rtnew_c w l (hl.h w hw)).mono fun e w' ⟨x, h1, h2, h3⟩ => ⟨x, h1, h2, hw.call h3⟩⟩

end Go.Proofs.YtaipiecplldinaaGreat

/- A volume found. -/
namespace Go.Proofs.YtaipiecplldinaaGreat
open Go.Eng Go.Kb
open Go.RowKit
theorem vol_build (c : Cp) (s : Sl Int) (g : UInt64) (l : Int) (w : World) : (Instr.build 29 #[(0, .agg (cpcells c)), (1, s.sv.val), (2, .int .u64 (g.toNat : Int)), (3, .int .i64 l)]).run Tryz.prog w = .ok (.agg (vlcells ⟨c, s, g, l⟩)) w := by
 obtain ⟨s, xs⟩ := s
 obtain ⟨a1, a2, ⟨a3, a4⟩, a5, a6, ⟨a7, a8⟩⟩ := c
 unfold vlcells cpcells
 obtain ⟨e, b, o, l, c, p⟩ := s
 obtain ⟨e3, b3, o3, l3, c3, p3⟩ := a3
 obtain ⟨e7, b7, o7, l7, c7, p7⟩ := a7
 cases e <;> cases e3 <;> cases e7 <;> kernel_rfl
theorem ffound_c (w : World) (c : Cp) (hc : Deep.good (hp w) c) : Calls Tryz.prog 43 #[.agg (cpcells c)] w fun e w' => ∃ zz : Vol, e = .returned (.tuple #[.agg (vlcells zz), .int .i64 ((foundF (cv c)).2)]) ∧ (vv zz = (foundF (cv c)).1 ∧ ((foundF (cv c)).2 = 0 → zz.chip = c)) ∧ Mem w [own iec 1 zz.at_.sv zz.at_.xs] w' := by
 have ghc : GvD w c := ⟨hc⟩
 refine calls_of (args := [_]) Tryz.func43 rfl Tryz.ntmps43 rfl ?_
 change Cw _ _ _ _ _ [(0, .agg (cpcells c))] []
 refine cw_seq ?_
 refine cw_region ?_
 refine sq_boxA rfl fun b1 => ?_
 refine sq_allocA fun b2 => ?_
 refine sq_r (ry_assign rfl) ?_
 refine sq_nil ?_
 refine ex_then ?_
 refine cw_seq ?_
 refine cw_seq ?_
 refine cw_region ?_
 refine sq_r (ry_whole rfl) ?_
 refine sq_y (yl_callC rfl trivial) ?_
 refine sq_r (ry_not rfl) ?_
 refine sq_nil ?_
 refine ex_then ?_
 refine cw_cond rfl (fun h0 => ?_) (fun h0 => ?_)
 ·
  try simp only [Z0, Z1, Z2, Z3, Z4, Z5, Z6, Z7, Z8, Z9] at h0
  have hE : foundF (cv c) = (zVV, 1) := by rw [foundF, if_pos h0]
  have hne : (1 : Int) ≠ 0 := by decide
  refine cw_seq ?_
  refine cw_region ?_
  refine sq_r (ry_build (v := .agg (vlcells zVol)) rfl (fun w => by kernel_rfl)) ?_
  refine sq_storeW rfl rfl ?_
  refine sq_r (ry_assign rfl) ?_
  refine sq_nil ?_
  refine ex_then ?_
  refine cw_ret ?_
  refine ex_pass_ret ?_
  refine ex_ret (.inl rfl) (res_2 rfl (rv_agg rfl) (rv_tmp rfl)) (fun w1 hw => ?_)
  exact ⟨zVol, by rw [hE], ⟨by rw [hE]; rfl, fun h => absurd (by rw [hE] at h; exact h) hne⟩, Mem.nilOwn iec 1 (Keep.mem hw : Mem w [] _)⟩
 ·
  try simp only [Z0, Z1, Z2, Z3, Z4, Z5, Z6, Z7, Z8, Z9] at h0
  have hbe := bearsF_iff.1 h0
  have hk := hbe.1
  have hcb : (cv c).blocks.length = c.blocks.xs.length := bvs_length _
  have hso := soundF_iff.1 (chipOk_iff.1 hk).1
  obtain ⟨B0, hB0⟩ := get_some (xs := c.blocks.xs) (i := 0) (by omega)
  obtain ⟨B1, hB1⟩ := get_some (xs := c.blocks.xs) (i := 1) (by omega)
  have mbB0 : Mb B0 c.blocks := ⟨List.mem_of_getElem? hB0⟩
  have mbB1 : Mb B1 c.blocks := ⟨List.mem_of_getElem? hB1⟩
  have o0 := (bkOk_iff.1 ((chipOk_iff.1 hk).2.2.2.2 (bv B0) (List.mem_of_getElem? (bvs_get hB0)))).1
  have o1 := (bkOk_iff.1 ((chipOk_iff.1 hk).2.2.2.2 (bv B1) (List.mem_of_getElem? (bvs_get hB1)))).1
  have ht0 := txs_length B0.pages.xs
  have ht1 := txs_length B1.pages.xs
  simp only [bv, cv] at o0 o1 hso
  have hT : txs (flatP [B0.pages, B1.pages]) = (blkAt (cv c) 0).pages ++ (blkAt (cv c) 1).pages := by
   rw [txs_flatP, show blkAt (cv c) 0 = bv B0 from blkAt_of hB0, show blkAt (cv c) 1 = bv B1 from blkAt_of hB1]; rfl
  have hat := nwF_at (l := (blkAt (cv c) 0).pages ++ (blkAt (cv c) 1).pages) (by rw [← hT, txs_flatP, List.length_append]; omega)
  have htl : ((blkAt (cv c) 0).pages ++ (blkAt (cv c) 1).pages).length = B0.pages.xs.length + B1.pages.xs.length := by rw [← hT, txs_flatP, List.length_append]; omega
  have hn0 : 0 ≤ (rootsAt (cv c)).1 := hat.1
  have hn1 : (rootsAt (cv c)).1 < c.pages + c.pages := by have := hat.2; rw [htl] at this; change (rootsAt (cv c)).1 < _ at this; omega
  have gva : GvAll w (flatP [B0.pages, B1.pages]) := ⟨fun y hy => by
   simp only [flatP, List.map_cons, List.map_nil, List.flatten_cons, List.flatten_nil, List.append_nil, List.mem_append] at hy
   rcases hy with hy | hy
   ·
    exact (hc.1.2 B0 mbB0.h).2 y hy
   ·
    exact (hc.1.2 B1 mbB1.h).2 y hy⟩
  have hlb0 : 0 ≤ ((rootsAt (cv c)).1 / c.pages) := Int.ediv_nonneg hn0 (by omega)
  have hlb1 : ((rootsAt (cv c)).1 / c.pages) < 2 := Int.ediv_lt_of_lt_mul (by omega) (by omega)
  have hok := nwF_ok ((blkAt (cv c) 0).pages ++ (blkAt (cv c) 1).pages)
  have hue : (c.blocks.xs.getD ((rootsAt (cv c)).1 / c.pages).toNat zBk).used = (blkAt (cv c) ((rootsAt (cv c)).1 / c.pages)).used := congrArg BV.used (blkAt_eq (c := c))
  refine cw_skip ?_
  refine ex_then ?_
  refine cw_seq ?_
  refine cw_seq ?_
  refine cw_region ?_
  refine sq_r (ry_field (o' := 4) rfl rfl) ?_
  refine sq_r (ry_cellc rfl) ?_
  refine sq_nil ?_
  refine ex_then ?_
  refine cw_cond rfl (fun h1 => ?_) (fun h1 => ?_)
  ·
   try simp only [Z0, Z1, Z2, Z3, Z4, Z5, Z6, Z7, Z8, Z9] at h1
   have hE : foundF (cv c) = (zVV, 7) := by rw [foundF, if_neg (by rw [h0]; simp), if_pos (show (cv c).off = true from h1)]
   have hne : (7 : Int) ≠ 0 := by decide
   refine cw_seq ?_
   refine cw_region ?_
   refine sq_r (ry_build (v := .agg (vlcells zVol)) rfl (fun w => by kernel_rfl)) ?_
   refine sq_storeW rfl rfl ?_
   refine sq_r (ry_assign rfl) ?_
   refine sq_nil ?_
   refine ex_then ?_
   refine cw_ret ?_
   refine ex_pass_ret ?_
   refine ex_ret (.inl rfl) (res_2 rfl (rv_agg rfl) (rv_tmp rfl)) (fun w1 hw => ?_)
   exact ⟨zVol, by rw [hE], ⟨by rw [hE]; rfl, fun h => absurd (by rw [hE] at h; exact h) hne⟩, Mem.nilOwn iec 1 (Keep.mem hw : Mem w [] _)⟩
  ·
   try simp only [Z0, Z1, Z2, Z3, Z4, Z5, Z6, Z7, Z8, Z9] at h1
   have hof : ¬ (cv c).off = true := by rw [show (cv c).off = c.off from rfl, h1]; simp
   refine cw_skip ?_
   refine ex_then ?_
   refine cw_seq ?_
   refine cw_linE [10, 11, 12, 17, 19, 2010, 2017, 4011, 4012] [[], [], [], [], [], [], [], [], [], [], [], [10], [10, 11], [10, 11, 12], [10, 11, 12], [10, 11, 12], [10, 11, 12], [], [10, 11, 12, 17], [10, 11, 12, 17], [10, 11, 12, 17, 19]] [0, 1, 2, 3, 4, 5, 6, 7, 8, 9, 10, 11, 12, 13, 14, 15, 16, 17, 18, 19, 20] [blk b1 (cpcells c) 25] [(10, bsM (scells (τ := Sl UInt8)) 1 2 [B0.pages, B1.pages]), (17, alM Tryz.prog 147)] (by kernel_rfl) (fun _ hw => Keep.mem hw) (by kernel_rfl) (by kernel_rfl) ?_
   refine ln_r rfl (ry_field (o' := 2) rfl rfl) ?_
   refine ln_r rfl (ry_cellc rfl) ?_
   refine ln_r rfl (ry_idxH rfl rfl 0 rfl (by omega)) ?_
   refine ln_r rfl (ry_field rfl rfl) ?_
   refine ln_r rfl (ry_elemcH (j := 0) rfl 0 hB0 rfl (by decide)) ?_
   refine ln_r rfl (ry_field (o' := 2) rfl rfl) ?_
   refine ln_r rfl (ry_cellc rfl) ?_
   refine ln_r rfl (ry_idxH rfl rfl 1 rfl (by omega)) ?_
   refine ln_r rfl (ry_field rfl rfl) ?_
   refine ln_r rfl (ry_elemcH (j := 0) rfl 1 hB1 rfl (by decide)) ?_
   refine ln_mk (m := bsM (scells (τ := Sl UInt8)) 1 2 [B0.pages, B1.pages]) rfl rfl (makes_bs (enc := (scells (τ := Sl UInt8))) (c := 1) (n := 2) (vals := [B0.pages.sv.val, B1.pages.sv.val]) [B0.pages, B1.pages] rfl (by simp only [List.map_cons, List.map_nil, Sv.cells_val]; rfl) rfl (by decide) (by decide)) (Cert.one (i := 17) rfl rfl rfl makes_al (Cert.none rfl)) fun b26 => ?_
   change Ln _ _ _ _ _ _ _ _ (putE _ _ (Sv.val ⟨false, b26, 0, 2, 2, none⟩)) (own (scells (τ := Sl UInt8)) 1 ⟨false, b26, 0, 2, 2, none⟩ [B0.pages, B1.pages] :: _) _
   refine ln_callF (hc := concatP_i (a := (⟨⟨false, b26, 0, 2, 2, none⟩, [B0.pages, B1.pages]⟩ : Sl (Sl (Sl UInt8))))) (hcF := fun e_ => concatP_i (a := (⟨⟨false, b26, 0, 2, 2, none⟩, [B0.pages, B1.pages]⟩ : Sl (Sl (Sl UInt8))))) rfl rfl (by simp only [flatP, List.map_cons, List.map_nil, List.flatten_cons, List.flatten_nil, List.length_append, List.length_nil]; omega) (fun e x w hw => Keep.mem hw) (Cert.one (i := 17) rfl rfl rfl makes_al (Cert.none rfl)) fun x27 hp27 => ⟨fun _ hw => Keep.mem hw, ?_⟩
   refine ln_callF (hc := rtnew_i (l := (⟨x27, (flatP [B0.pages, B1.pages])⟩ : Sl (Sl UInt8)))) (hcF := fun e_ => rtnew_i (l := (⟨x27, (flatP [B0.pages, B1.pages])⟩ : Sl (Sl UInt8)))) rfl rfl trivial (fun e x w hw => Keep.mem hw) (Cert.one (i := 17) rfl rfl rfl makes_al (Cert.none rfl)) fun x28 hp28 => ⟨fun _ hw => Keep.mem hw, ?_⟩
   have hr1 : (nwF (txs (flatP [B0.pages, B1.pages]))).1 = (rootsAt (cv c)).1 := by rw [hT]; rfl
   have hr3 : (nwF (txs (flatP [B0.pages, B1.pages]))).2.2 = (rootsAt (cv c)).2.2 := by rw [hT]; rfl
   have hr2 : rvv x28 = (rootsAt (cv c)).2.1 := by rw [hp28, hT]; rfl
   have hrg : x28.gen.toNat = (rootsAt (cv c)).2.1.gen := congrArg RV.gen hr2
   have hra : x28.at_.xs = (rootsAt (cv c)).2.1.at_ := congrArg RV.at_ hr2
   refine ln_r rfl (ry_move rfl) ?_
   refine ln_r rfl (ry_extract (v := .int .i64 ((nwF (txs (flatP [B0.pages, B1.pages]))).1)) rfl rfl) ?_
   refine ln_r rfl (ry_extract (v := .agg (rtcells x28)) rfl rfl) ?_
   refine ln_r rfl (ry_extract (v := .int .i64 ((nwF (txs (flatP [B0.pages, B1.pages]))).2.2)) rfl rfl) ?_
   refine ln_mk (m := alM Tryz.prog 147) rfl rfl makes_al (Cert.none rfl) fun b5 => ?_
   change Ln _ _ _ _ _ _ _ _ (putE _ _ (.pointer (some ⟨b5, 0, none⟩))) (blk b5 (rtcells zRts) 147 :: _) _
   refine ln_r rfl (ry_assign rfl) ?_
   refine ln_st rfl (st_storeW rfl rfl ⟨fun _ hw => Keep.mem hw, ?_⟩)
   refine ln_r rfl (ry_assign rfl) ?_
   refine ln_nil ?_
   refine ex_then ?_
   refine cw_seq ?_
   refine cw_seq ?_
   refine cw_region ?_
   refine sq_r (ry_move rfl) ?_
   refine sq_r (ry_int rfl rfl rfl) ?_
   refine sq_nil ?_
   refine ex_then ?_
   refine cw_cond rfl (fun h2 => ?_) (fun h2 => ?_)
   ·
    try simp only [Z0, Z1, Z2, Z3, Z4, Z5, Z6, Z7, Z8, Z9] at h2
    rw [hr3] at h2
    have hE : foundF (cv c) = (zVV, (rootsAt (cv c)).2.2) := by rw [foundF, if_neg (by rw [h0]; simp), if_neg hof, if_pos h2]
    have hne := h2
    refine cw_seq ?_
    refine cw_region ?_
    refine sq_r (ry_build (v := .agg (vlcells zVol)) rfl (fun w => by kernel_rfl)) ?_
    refine sq_r (ry_move rfl) ?_
    refine sq_storeW rfl rfl ?_
    refine sq_r (ry_assign rfl) ?_
    refine sq_nil ?_
    refine ex_then ?_
    refine cw_ret ?_
    refine ex_pass_ret ?_
    refine ex_ret (.inl rfl) (res_2 rfl (rv_agg rfl) (rv_tmp rfl)) (fun w1 hw => ?_)
    exact ⟨zVol, by rw [hE, hr3], ⟨by rw [hE]; rfl, fun h => absurd (by rw [hE] at h; exact h) hne⟩, Mem.nilOwn iec 1 (Keep.mem hw : Mem w [] _)⟩
   ·
    try simp only [Z0, Z1, Z2, Z3, Z4, Z5, Z6, Z7, Z8, Z9] at h2
    rw [hr3] at h2
    refine cw_skip ?_
    refine ex_then ?_
    refine cw_seq ?_
    refine cw_region ?_
    refine sq_r (ry_move rfl) ?_
    refine sq_r (ry_field (o' := 0) rfl rfl) ?_
    refine sq_r (ry_cellc rfl) ?_
    refine sq_r (ry_quo rfl rfl (by omega) (by omega)) ?_
    refine sq_r (ry_assign rfl) ?_
    refine sq_nil ?_
    refine ex_then ?_
    refine cw_seq ?_
    refine cw_seq ?_
    refine cw_quiet (by kernel_rfl) (by kernel_rfl) ?_
    refine qt_r (ry_move rfl) ?_
    refine qt_r (ry_field (o' := 0) rfl rfl) ?_
    refine qt_r (ry_cellc rfl) ?_
    refine qt_r (ry_rem rfl rfl (by omega) (by omega)) ?_
    refine qt_r (ry_field (o' := 2) rfl rfl) ?_
    refine qt_r (ry_cellc rfl) ?_
    refine qt_r (ry_move rfl) ?_
    refine qt_r (ry_idxH rfl rfl (((nwF (txs (flatP [B0.pages, B1.pages]))).1 / c.pages).toNat) (by rw [hr1]; omega) (by rw [hr1]; omega)) ?_
    refine qt_r (ry_field rfl rfl) ?_
    refine qt_r (ry_elemcH (j := 1) rfl (((nwF (txs (flatP [B0.pages, B1.pages]))).1 / c.pages).toNat) (get_getD (xs := c.blocks.xs) (i := ((nwF (txs (flatP [B0.pages, B1.pages]))).1 / c.pages).toNat) (d := zBk) (by rw [hr1]; omega)) rfl (by decide)) ?_
    refine qt_r (ry_int rfl rfl rfl) ?_
    refine qt_r (ry_move rfl) ?_
    refine qt_gf rfl rfl rfl (fun hg => (Ry.yl (ry_whole rfl))) ?_
    refine qt_gf rfl rfl rfl (fun hg => (Ry.yl (ry_field (o' := 1) rfl rfl))) ?_
    refine qt_gf rfl rfl rfl (fun hg => (Ry.yl (ry_cellc (ev_c hg rfl)))) ?_
    refine qt_gf rfl rfl rfl (fun hg => yl_callC (evl_cons (ev_c hg rfl) (evl_cons (ev_c hg rfl) evl_nil)) ⟨hk, fun x hx => hok x (by rw [hra] at hx; exact hx)⟩) ?_
    refine qt_gf rfl rfl rfl (fun hg => (Ry.yl (ry_not (ev_c hg rfl)))) ?_
    refine qt_r (ry_or rfl rfl rfl) ?_
    refine qt_nil ?_
    refine ex_then ?_
    refine cw_cond rfl (fun h3 => ?_) (fun h3 => ?_)
    ·
     try simp only [Z0, Z1, Z2, Z3, Z4, Z5, Z6, Z7, Z8, Z9] at h3
     have hlo : lastOk (cv c) = false := by
      rw [hra] at h3
      cases hk9 : lastOk (cv c) with
      | false => rfl
      | true =>
       simp only [lastOk, Bool.and_eq_true, decide_eq_true_eq] at hk9
       rw [hk9.2] at h3
       simp only [Bool.true_eq_false, or_false] at h3
       have := hk9.1
       rw [hr1, hue] at h3
       exact absurd this (by simp only [cv] at *; omega)
     have hE : foundF (cv c) = (zVV, 2) := by rw [foundF, if_neg (by rw [h0]; simp), if_neg hof, if_neg (by omega), if_pos hlo]
     have hne : (2 : Int) ≠ 0 := by decide
     refine cw_seq ?_
     refine cw_region ?_
     refine sq_r (ry_build (v := .agg (vlcells zVol)) rfl (fun w => by kernel_rfl)) ?_
     refine sq_storeW rfl rfl ?_
     refine sq_r (ry_assign rfl) ?_
     refine sq_nil ?_
     refine ex_then ?_
     refine cw_ret ?_
     refine ex_pass_ret ?_
     refine ex_ret (.inl rfl) (res_2 rfl (rv_agg rfl) (rv_tmp rfl)) (fun w1 hw => ?_)
     exact ⟨zVol, by rw [hE], ⟨by rw [hE]; rfl, fun h => absurd (by rw [hE] at h; exact h) hne⟩, Mem.nilOwn iec 1 (Keep.mem hw : Mem w [] _)⟩
    ·
     try simp only [Z0, Z1, Z2, Z3, Z4, Z5, Z6, Z7, Z8, Z9] at h3
     have hlo : lastOk (cv c) = true := by
      rw [hra, hr1, hue] at h3
      simp only [lastOk, Bool.and_eq_true, decide_eq_true_eq]
      exact ⟨by have := h3.1; simp only [cv] at *; omega, h3.2⟩
     have hE : foundF (cv c) = (⟨cv c, (rootsAt (cv c)).2.1.at_, (rootsAt (cv c)).2.1.gen, (rootsAt (cv c)).1 / c.pages⟩, 0) := by rw [foundF, if_neg (by rw [h0]; simp), if_neg hof, if_neg (by omega), if_neg (by rw [hlo]; simp)]; rfl
     refine cw_skip ?_
     refine ex_then ?_
     refine cw_seq ?_
     refine cw_region ?_
     refine sq_r (ry_whole rfl) ?_
     refine sq_r (ry_field (o' := 1) rfl rfl) ?_
     refine sq_r (ry_cellc rfl) ?_
     refine sq_r (ry_field (o' := 0) rfl rfl) ?_
     refine sq_r (ry_cellc rfl) ?_
     refine sq_r (ry_move rfl) ?_
     refine sq_r (ry_build (v := .agg (vlcells ⟨c, x28.at_, x28.gen, ((nwF (txs (flatP [B0.pages, B1.pages]))).1 / c.pages)⟩)) rfl (vol_build c x28.at_ x28.gen ((nwF (txs (flatP [B0.pages, B1.pages]))).1 / c.pages))) ?_
     refine sq_storeW rfl rfl ?_
     refine sq_r (ry_assign rfl) ?_
     refine sq_nil ?_
     refine ex_then ?_
     refine cw_ret ?_
     refine ex_ret (.inl rfl) (res_2 rfl (rv_agg rfl) (rv_tmp rfl)) (fun w1 hw => ?_)
     exact ⟨⟨c, x28.at_, x28.gen, (nwF (txs (flatP [B0.pages, B1.pages]))).1 / c.pages⟩, by rw [hE], ⟨by rw [hE]; simp only [vv, hra, hrg, hr1], fun _ => rfl⟩, Keep.mem hw⟩
instance ffound_i {w0 : World} {L : List Ent} {c : Cp} [hc : HdD w0 L c] : FnC Tryz.prog 43 w0 L [.agg (cpcells c)] (Vol) (fun zz => .tuple #[.agg (vlcells zz), .int .i64 ((foundF (cv c)).2)]) (fun zz => own iec 1 zz.at_.sv zz.at_.xs :: L) (fun zz => vv zz = (foundF (cv c)).1 ∧ ((foundF (cv c)).2 = 0 → zz.chip = c)) (True) := ⟨fun hp w hw => (ffound_c w c (hc.h w hw)).mono fun e w' ⟨x, h1, h2, h3⟩ => ⟨x, h1, h2, hw.call h3⟩⟩

end Go.Proofs.YtaipiecplldinaaGreat

/- A chip mounted; right volumes. -/
namespace Go.Proofs.YtaipiecplldinaaGreat
open Go.Eng Go.Kb
open Go.RowKit
theorem fmount_c (w : World) (c : Cp) (hc : Deep.good (hp w) c) : Calls Tryz.prog 12 #[.agg (cpcells c)] w fun e w' => ∃ zz : Vol, e = .returned (.tuple #[.agg (vlcells zz), .int .i64 ((foundF (cv c)).2)]) ∧ (vv zz = (if (foundF (cv c)).2 = 0 then (foundF (cv c)).1 else zVV)) ∧ Mem w [fz zz.chip, own iec 1 zz.at_.sv zz.at_.xs] w' := by
 have ghc : GvD w c := ⟨hc⟩
 refine calls_of (args := [_]) Tryz.func12 rfl Tryz.ntmps12 rfl ?_
 change Cw _ _ _ _ _ [(0, .agg (cpcells c))] []
 refine cw_seq ?_
 refine cw_region ?_
 refine sq_boxA rfl fun b1 => ?_
 refine sq_allocA fun b2 => ?_
 refine sq_r (ry_assign rfl) ?_
 refine sq_nil ?_
 refine ex_then ?_
 refine cw_seq ?_
 refine cw_region ?_
 refine sq_r (ry_whole rfl) ?_
 refine sq_callC rfl trivial fun x8 hp8 => ?_
 obtain ⟨hv8, hc8⟩ := hp8
 have hl8 := foundF_len (cv c)
 have ha8 : x8.at_.xs = (foundF (cv c)).1.at_ := congrArg VV.at_ hv8
 rw [← ha8] at hl8
 refine sq_r (ry_move rfl) ?_
 refine sq_r (ry_extract (v := .agg (vlcells x8)) rfl rfl) ?_
 refine sq_r (ry_extract (v := .int .i64 ((foundF (cv c)).2)) rfl rfl) ?_
 refine sq_allocA fun b4 => ?_
 refine sq_storeW rfl rfl ?_
 refine sq_r (ry_assign rfl) ?_
 refine sq_nil ?_
 refine ex_then ?_
 refine cw_seq ?_
 refine cw_seq ?_
 refine cw_region ?_
 refine sq_r (ry_move rfl) ?_
 refine sq_r (ry_int rfl rfl rfl) ?_
 refine sq_nil ?_
 refine ex_then ?_
 refine cw_cond rfl (fun h0 => ?_) (fun h0 => ?_)
 ·
  try simp only [Z0, Z1, Z2, Z3, Z4, Z5, Z6, Z7, Z8, Z9] at h0
  refine cw_seq ?_
  refine cw_region ?_
  refine sq_r (ry_build (v := .agg (vlcells zVol)) rfl (fun w => by kernel_rfl)) ?_
  refine sq_r (ry_move rfl) ?_
  refine sq_storeW rfl rfl ?_
  refine sq_r (ry_assign rfl) ?_
  refine sq_nil ?_
  refine ex_then ?_
  refine cw_ret ?_
  refine ex_pass_ret ?_
  refine ex_ret (.inl rfl) (res_2 rfl (rv_agg rfl) (rv_tmp rfl)) (fun w1 hw => ?_)
  exact ⟨zVol, rfl, by rw [if_neg h0]; rfl, fz_nil (Mem.nilOwn iec 1 (Keep.mem hw : Mem w [] _))⟩
 ·
  try simp only [Z0, Z1, Z2, Z3, Z4, Z5, Z6, Z7, Z8, Z9] at h0
  have h0e : (foundF (cv c)).2 = 0 := h0
  have ec : EqC x8.chip c := ⟨hc8 h0e⟩
  have hsm : smallC x8.chip := by rw [hc8 h0e]; exact small_of (bearsF_iff.1 (foundF_bears h0e)).1
  refine cw_skip ?_
  refine ex_then ?_
  refine cw_seq ?_
  refine cw_mem [Deep.ent x8.at_, blk b4 (vlcells x8) 29, blk b2 (vlcells zVol) 29, blk b1 (cpcells c) 25] (fun w hw => Keep.mem (Mem.shutP (Keep.mem hw : Mem _ [own iec 1 x8.at_.sv x8.at_.xs, blk b4 (vlcells x8) 29, blk b2 (vlcells zVol) 29, blk b1 (cpcells c) 25] _))) ?_
  refine cw_region ?_
  refine sq_r (ry_whole rfl) ?_
  refine sq_callC rfl ⟨by assumption, by omega⟩ fun x16 hp16 => ?_
  refine sq_storeW rfl rfl ?_
  refine sq_r (ry_assign rfl) ?_
  refine sq_nil ?_
  refine ex_then ?_
  refine cw_ret ?_
  refine ex_ret (.inl rfl) (res_2 rfl (rv_agg rfl) (rv_tmp rfl)) (fun w1 hw => ?_)
  exact ⟨(⟨x16.1, ⟨x16.2, x8.at_.xs⟩, x8.gen, x8.last⟩ : Vol), by rw [h0e], by
   rw [if_pos h0e, ← hv8]
   simp only [vv, hp16], Keep.mem hw⟩
instance fmount_i {w0 : World} {L : List Ent} {c : Cp} [hc : HdD w0 L c] : FnC Tryz.prog 12 w0 L [.agg (cpcells c)] (Vol) (fun zz => .tuple #[.agg (vlcells zz), .int .i64 ((foundF (cv c)).2)]) (fun zz => fz zz.chip :: own iec 1 zz.at_.sv zz.at_.xs :: L) (fun zz => vv zz = (if (foundF (cv c)).2 = 0 then (foundF (cv c)).1 else zVV)) (True) := ⟨fun hp w hw => (fmount_c w c (hc.h w hw)).mono fun e w' ⟨x, h1, h2, h3⟩ => ⟨x, h1, h2, hw.call h3⟩⟩
theorem fright_c (w : World) (v : Vol) (hv : Deep.good (hp w) v) : Calls Tryz.prog 19 #[.agg (vlcells v)] w fun e w' => e = .returned (.bool (rightF (vv v))) ∧ Mem w [] w' := by
 have ghv : GvD w v := ⟨hv⟩
 refine calls_of (args := [_]) Tryz.func19 rfl Tryz.ntmps19 rfl ?_
 change Cw _ _ _ _ _ [(0, .agg (vlcells v))] []
 refine cw_seq ?_
 refine cw_region ?_
 refine sq_boxA rfl fun b1 => ?_
 refine sq_r (ry_assign rfl) ?_
 refine sq_nil ?_
 refine ex_then ?_
 refine cw_seq ?_
 refine cw_region ?_
 refine sq_r (ry_field (o' := 0) rfl rfl) ?_
 refine sq_r (ry_part rfl) ?_
 refine sq_allocA fun b3 => ?_
 refine sq_storeW rfl rfl ?_
 refine sq_nil ?_
 refine ex_then ?_
 refine cw_seq ?_
 refine cw_region ?_
 refine sq_r (ry_field (o' := 4) rfl rfl) ?_
 refine sq_store (cs' := cpcells (⟨v.chip.pages, v.chip.size, v.chip.blocks, v.chip.ops, false, v.chip.faults⟩ : Cp)) rfl rfl (by show 4 < 6; decide) (by first | rfl | exact Sv.one _) rfl ?_
 refine sq_nil ?_
 refine ex_then ?_
 refine cw_seq ?_
 refine cw_region ?_
 refine sq_r (ry_whole rfl) ?_
 refine sq_callC rfl trivial fun x11 hp11 => ?_
 obtain ⟨hv11, hc11⟩ := hp11
 have hvg : x11.gen.toNat = (foundF { (vv v).chip with off := false }).1.gen := congrArg VV.gen hv11
 have hvl : x11.last = (foundF { (vv v).chip with off := false }).1.last := congrArg VV.last hv11
 have hva : x11.at_.xs = (foundF { (vv v).chip with off := false }).1.at_ := congrArg VV.at_ hv11
 refine sq_r (ry_move rfl) ?_
 refine sq_r (ry_extract (v := .agg (vlcells x11)) rfl rfl) ?_
 refine sq_r (ry_extract (v := .int .i64 ((foundF (cv (⟨v.chip.pages, v.chip.size, v.chip.blocks, v.chip.ops, false, v.chip.faults⟩ : Cp))).2)) rfl rfl) ?_
 refine sq_allocA fun b4 => ?_
 refine sq_storeW rfl rfl ?_
 refine sq_r (ry_assign rfl) ?_
 refine sq_nil ?_
 refine ex_then ?_
 refine cw_seq ?_
 refine cw_region ?_
 refine sq_r (ry_move rfl) ?_
 refine sq_r (ry_int rfl rfl rfl) ?_
 refine sq_r (ry_move rfl) ?_
 refine sq_gt rfl rfl rfl (fun hg => (Ry.yl (ry_field (o' := 7) rfl rfl))) ?_
 refine sq_gt rfl rfl rfl (fun hg => (Ry.yl (ry_cellc (ev_c hg rfl)))) ?_
 refine sq_gt rfl rfl rfl (fun hg => (Ry.yl (ry_field (o' := 7) rfl rfl))) ?_
 refine sq_gt rfl rfl rfl (fun hg => (Ry.yl (ry_cellc (ev_c hg rfl)))) ?_
 refine sq_gt rfl rfl rfl (fun hg => (Ry.yl (ry_int (ev_c hg rfl) (ev_c hg rfl) rfl))) ?_
 refine sq_r (ry_and rfl rfl rfl) ?_
 refine sq_r (ry_move rfl) ?_
 refine sq_gt rfl rfl rfl (fun hg => (Ry.yl (ry_field (o' := 8) rfl rfl))) ?_
 refine sq_gt rfl rfl rfl (fun hg => (Ry.yl (ry_cellc (ev_c hg rfl)))) ?_
 refine sq_gt rfl rfl rfl (fun hg => (Ry.yl (ry_field (o' := 8) rfl rfl))) ?_
 refine sq_gt rfl rfl rfl (fun hg => (Ry.yl (ry_cellc (ev_c hg rfl)))) ?_
 refine sq_gt rfl rfl rfl (fun hg => (Ry.yl (ry_int (ev_c hg rfl) (ev_c hg rfl) rfl))) ?_
 refine sq_r (ry_and rfl rfl rfl) ?_
 refine sq_r (ry_move rfl) ?_
 refine sq_gt rfl rfl rfl (fun hg => (Ry.yl (ry_field (o' := 6) rfl rfl))) ?_
 refine sq_gt rfl rfl rfl (fun hg => (Ry.yl (ry_cellc (ev_c hg rfl)))) ?_
 refine sq_gt rfl rfl rfl (fun hg => (Ry.yl (ry_field (o' := 6) rfl rfl))) ?_
 refine sq_gt rfl rfl rfl (fun hg => (Ry.yl (ry_cellc (ev_c hg rfl)))) ?_
 refine sq_gt rfl rfl rfl (fun hg => yl_callC (evl_cons (ev_c hg rfl) (evl_cons (ev_c hg rfl) evl_nil)) trivial) ?_
 refine sq_r (ry_and rfl rfl rfl) ?_
 refine sq_r (ry_assign rfl) ?_
 refine sq_nil ?_
 refine ex_then ?_
 refine cw_ret ?_
 refine ex_ret (.inl rfl) (res_1 rfl (rv_tmp rfl)) (fun w1 hw => ?_)
 exact ⟨congrArg (fun b => Ending.returned (Value.bool b)) ((by rw [show decide (((x11.gen.toNat : Nat) : Int) = ((v.gen.toNat : Nat) : Int)) = decide (x11.gen.toNat = v.gen.toNat) from decide_eq_decide.2 (by omega), rightF, ← hvg, ← hvl, ← hva]; rfl)), Keep.mem hw⟩
instance fright_i {w0 : World} {L : List Ent} {v : Vol} [hv : HdD w0 L v] : FnQ Tryz.prog 19 w0 L [.agg (vlcells v)] (.bool (rightF (vv v))) (True) := ⟨fun hp w hw => fright_c w v (hv.h w hw)⟩

end Go.Proofs.YtaipiecplldinaaGreat

/- Bodies. -/
namespace Go.Proofs.YtaipiecplldinaaGreat
open Go.Eng Go.Kb
open Go.RowKit
theorem fbody_c (w : World) (v : Vol) (id : Int) (hv : Deep.good (hp w) v) (hpre : chipOk (cv v.chip) = true ∧ ∃ y, v.at_.xs[id.toNat]? = Option.some y ∧ 0 ≤ id ∧ 1 ≤ y ∧ y ≤ 1000000 ∧ 2 ≤ (y - 1) / (cv v.chip).pages ∧ (y - 1) / (cv v.chip).pages < ((cv v.chip).blocks.length : Int)) : Calls Tryz.prog 49 #[.agg (vlcells v), .int .i64 id] w fun e w' => ∃ zz : Sv, e = .returned (zz.val) ∧ (True) ∧ Mem w [own benc 1 zz (bodyF (cv v.chip) (v.at_.xs.getD id.toNat 0))] w' := by
 have ghv : GvD w v := ⟨hv⟩
 obtain ⟨hk, y, hy, hid, hy1, hy2, g1, g2⟩ := hpre
 have hyg : v.at_.xs.getD id.toNat 0 = y := getD_of hy
 have hil := (List.getElem?_eq_some_iff.1 hy).1
 have hbl := bvs_length v.chip.blocks.xs
 have hso := soundF_iff.1 (chipOk_iff.1 hk).1
 simp only [cv, hbl] at hso
 have hq0 : 0 ≤ ((y - 1) / v.chip.pages) := Int.ediv_nonneg (by omega) (by omega)
 have hm0 : 0 ≤ ((y - 1) % v.chip.pages) := Int.emod_nonneg _ (by omega)
 have hm1 : ((y - 1) % v.chip.pages) < v.chip.pages := Int.emod_lt_of_pos _ (by omega)
 have hbe := blkAt_eq (c := v.chip) (b := ((y - 1) / v.chip.pages))
 change 2 ≤ ((y - 1) / v.chip.pages) at g1
 change ((y - 1) / v.chip.pages) < ((bvs v.chip.blocks.xs).length : Int) at g2
 rw [hbl] at g2
 obtain ⟨B, hB⟩ := get_some (xs := v.chip.blocks.xs) (i := ((y - 1) / v.chip.pages).toNat) (by omega)
 have mbB : Mb B v.chip.blocks := ⟨List.mem_of_getElem? hB⟩
 have hBv : bv B = blkAt (cv v.chip) ((y - 1) / v.chip.pages) := by rw [← hbe]; simp [List.getD, hB]
 have hBo := bkOk_iff.1 ((chipOk_iff.1 hk).2.2.2.2 (bv B) (List.mem_of_getElem? (bvs_get hB)))
 have htl := txs_length B.pages.xs
 have hpl2 : (B.pages.xs.length : Int) = v.chip.pages := by have := hBo.1; simp only [bv, cv, htl] at this; exact this
 obtain ⟨z, hz⟩ := get_some (xs := B.pages.xs) (i := ((y - 1) % v.chip.pages).toNat) (by omega)
 have mbz : Mb z B.pages := ⟨List.mem_of_getElem? hz⟩
 have hpa : pageAt (cv v.chip) (y - 1) = z.xs := by
  show (blkAt (cv v.chip) ((y - 1) / v.chip.pages)).pages.getD ((y - 1) % v.chip.pages).toNat [] = z.xs
  rw [← hBv]
  simp [bv, List.getD, txs_get hz]
 refine calls_of (args := [_, _]) Tryz.func49 rfl Tryz.ntmps49 rfl ?_
 change Cw _ _ _ _ _ [(0, .agg (vlcells v)), (1, .int .i64 id)] []
 refine cw_seq ?_
 refine cw_region ?_
 refine sq_boxA rfl fun b2 => ?_
 refine sq_r (ry_assign rfl) ?_
 refine sq_nil ?_
 refine ex_then ?_
 refine cw_seq ?_
 refine cw_region ?_
 refine sq_r (ry_field (o' := 6) rfl rfl) ?_
 refine sq_r (ry_cellc rfl) ?_
 refine sq_r (ry_move rfl) ?_
 refine sq_r (ry_idxH rfl rfl id.toNat (by omega) (by omega)) ?_
 refine sq_r (ry_elemcH (j := 0) rfl id.toNat hy rfl (by decide)) ?_
 refine sq_r (ry_sub rfl rfl (by omega)) ?_
 refine sq_r (ry_assign rfl) ?_
 refine sq_nil ?_
 refine ex_then ?_
 refine cw_seq ?_
 refine cw_linE [18, 22, 23, 2022, 4018] [[], [], [], [], [], [], [], [], [], [], [], [], [], [], [], [], [], [], [], [18], [18], [18], [], [18, 22], [18, 22, 23]] [0, 1, 2, 3, 4, 5, 6, 7, 8, 9, 10, 11, 12, 13, 14, 15, 16, 17, 18, 19, 20, 21, 22, 23, 24] [blk b2 (vlcells v) 29] [(22, alM Tryz.prog 110)] (by kernel_rfl) (fun _ hw => Keep.mem hw) (by kernel_rfl) (by kernel_rfl) ?_
 refine ln_r rfl (ry_field (o' := 0) rfl rfl) ?_
 refine ln_r rfl (ry_field (o' := 2) rfl rfl) ?_
 refine ln_r rfl (ry_cellc rfl) ?_
 refine ln_r rfl (ry_move rfl) ?_
 refine ln_r rfl (ry_field (o' := 0) rfl rfl) ?_
 refine ln_r rfl (ry_field (o' := 0) rfl rfl) ?_
 refine ln_r rfl (ry_cellc rfl) ?_
 refine ln_r rfl (ry_quo rfl rfl (by omega) (by omega)) ?_
 refine ln_r rfl (ry_idxH rfl rfl (((y - 1) / v.chip.pages).toNat) (by omega) (by omega)) ?_
 refine ln_r rfl (ry_field rfl rfl) ?_
 refine ln_r rfl (ry_elemcH (j := 0) rfl (((y - 1) / v.chip.pages).toNat) hB rfl (by decide)) ?_
 refine ln_r rfl (ry_move rfl) ?_
 refine ln_r rfl (ry_field (o' := 0) rfl rfl) ?_
 refine ln_r rfl (ry_field (o' := 0) rfl rfl) ?_
 refine ln_r rfl (ry_cellc rfl) ?_
 refine ln_r rfl (ry_rem rfl rfl (by omega) (by omega)) ?_
 refine ln_r rfl (ry_idxH rfl rfl (((y - 1) % v.chip.pages).toNat) (by omega) (by omega)) ?_
 refine ln_r rfl (ry_elemcH (j := 0) rfl (((y - 1) % v.chip.pages).toNat) hz rfl (by decide)) ?_
 refine ln_callF rfl rfl trivial (fun e x w hw => Keep.mem hw) (Cert.one (i := 22) rfl rfl rfl makes_al (Cert.none rfl)) fun x33 hp33 => ⟨fun _ hw => Keep.mem hw, ?_⟩
 have e1 : x33.body.xs = (readF z.xs).1.body := congrArg PV.body hp33
 refine ln_r rfl (ry_move rfl) ?_
 refine ln_r rfl (ry_extract (v := .agg (pgcells x33)) rfl rfl) ?_
 refine ln_r rfl (ry_extract (v := .int .i64 ((readF z.xs).2)) rfl rfl) ?_
 refine ln_mk (m := alM Tryz.prog 110) rfl rfl makes_al (Cert.none rfl) fun b6 => ?_
 change Ln _ _ _ _ _ _ _ _ (putE _ _ (.pointer (some ⟨b6, 0, none⟩))) (blk b6 (pgcells zPge) 110 :: _) _
 refine ln_st rfl (st_storeW rfl rfl ⟨fun _ hw => Keep.mem hw, ?_⟩)
 refine ln_r rfl (ry_assign rfl) ?_
 refine ln_nil ?_
 refine ex_then ?_
 refine cw_seq ?_
 refine cw_seq ?_
 refine cw_region ?_
 refine sq_r (ry_move rfl) ?_
 refine sq_r (ry_int rfl rfl rfl) ?_
 refine sq_nil ?_
 refine ex_then ?_
 refine cw_cond rfl (fun h0 => ?_) (fun h0 => ?_)
 ·
  try simp only [Z0, Z1, Z2, Z3, Z4, Z5, Z6, Z7, Z8, Z9] at h0
  have hE : (bodyF (cv v.chip) (v.at_.xs.getD id.toNat 0)) = [] := by rw [hyg, bodyF, hpa, if_neg h0]
  refine cw_seq ?_
  refine cw_region ?_
  refine sq_r (ry_assign rfl) ?_
  refine sq_nil ?_
  refine ex_then ?_
  refine cw_ret ?_
  refine ex_pass_ret ?_
  refine ex_ret (.inl rfl) (res_1 rfl (rv_tmp rfl)) (fun w1 hw => ?_)
  exact ⟨Sv.none, rfl, trivial, by rw [hE]; exact Mem.nilOwn benc 1 (Keep.mem hw : Mem w [] _)⟩
 ·
  try simp only [Z0, Z1, Z2, Z3, Z4, Z5, Z6, Z7, Z8, Z9] at h0
  have h0e : (readF z.xs).2 = 0 := h0
  have hE : (bodyF (cv v.chip) (v.at_.xs.getD id.toNat 0)) = x33.body.xs := by rw [hyg, bodyF, hpa, if_pos h0e, e1]
  refine cw_skip ?_
  refine ex_then ?_
  refine cw_seq ?_
  refine cw_region ?_
  refine sq_r (ry_field (o' := 3) rfl rfl) ?_
  refine sq_r (ry_cellc rfl) ?_
  refine sq_r (ry_assign rfl) ?_
  refine sq_nil ?_
  refine ex_then ?_
  refine cw_ret ?_
  refine ex_ret (.inl rfl) (res_1 rfl (rv_tmp rfl)) (fun w1 hw => ?_)
  exact ⟨x33.body.sv, rfl, trivial, by rw [hE]; exact Keep.mem hw⟩
instance fbody_i {w0 : World} {L : List Ent} {v : Vol} {id : Int} [hv : HdD w0 L v] : FnC Tryz.prog 49 w0 L [.agg (vlcells v), .int .i64 id] (Sv) (fun zz => zz.val) (fun zz => own benc 1 zz (bodyF (cv v.chip) (v.at_.xs.getD id.toNat 0)) :: L) (fun zz => True) (chipOk (cv v.chip) = true ∧ ∃ y, v.at_.xs[id.toNat]? = Option.some y ∧ 0 ≤ id ∧ 1 ≤ y ∧ y ≤ 1000000 ∧ 2 ≤ (y - 1) / (cv v.chip).pages ∧ (y - 1) / (cv v.chip).pages < ((cv v.chip).blocks.length : Int)) := ⟨fun hp w hw => (fbody_c w v id (hv.h w hw) hp).mono fun e w' ⟨x, h1, h2, h3⟩ => ⟨x, h1, h2, hw.call h3⟩⟩

end Go.Proofs.YtaipiecplldinaaGreat

/- Bodies got. -/
namespace Go.Proofs.YtaipiecplldinaaGreat
open Go.Eng Go.Kb
open Go.RowKit
theorem fget_c (w : World) (v : Vol) (id : Int) (hv : Deep.good (hp w) v) : Calls Tryz.prog 15 #[.agg (vlcells v), .int .i64 id] w fun e w' => ∃ zz : Sv, e = .returned (.tuple #[zz.val, .int .i64 ((getF (vv v) id).2)]) ∧ (True) ∧ Mem w [own benc 1 zz (getF (vv v) id).1] w' := by
 have ghv : GvD w v := ⟨hv⟩
 refine calls_of (args := [_, _]) Tryz.func15 rfl Tryz.ntmps15 rfl ?_
 change Cw _ _ _ _ _ [(0, .agg (vlcells v)), (1, .int .i64 id)] []
 refine cw_seq ?_
 refine cw_region ?_
 refine sq_boxA rfl fun b2 => ?_
 refine sq_r (ry_assign rfl) ?_
 refine sq_r (ry_assign rfl) ?_
 refine sq_nil ?_
 refine ex_then ?_
 refine cw_seq ?_
 refine cw_seq ?_
 refine cw_region ?_
 refine sq_r (ry_whole rfl) ?_
 refine sq_y (yl_callC rfl trivial) ?_
 refine sq_r (ry_not rfl) ?_
 refine sq_r (ry_move rfl) ?_
 refine sq_gf rfl rfl rfl (fun hg => (Ry.yl (ry_move rfl))) ?_
 refine sq_gf rfl rfl rfl (fun hg => (Ry.yl (ry_int (ev_c hg rfl) rfl rfl))) ?_
 refine sq_r (ry_or rfl rfl rfl) ?_
 refine sq_r (ry_move rfl) ?_
 refine sq_gf rfl rfl rfl (fun hg => (Ry.yl (ry_move rfl))) ?_
 refine sq_gf rfl rfl rfl (fun hg => (Ry.yl (ry_field (o' := 6) rfl rfl))) ?_
 refine sq_gf rfl rfl rfl (fun hg => (Ry.yl (ry_cellc (ev_c hg rfl)))) ?_
 refine sq_gf rfl rfl rfl (fun hg => (Ry.yl (ry_lenH (ev_c hg rfl)))) ?_
 refine sq_gf rfl rfl rfl (fun hg => (Ry.yl (ry_int (ev_c hg rfl) (ev_c hg rfl) rfl))) ?_
 refine sq_r (ry_or rfl rfl rfl) ?_
 refine sq_nil ?_
 refine ex_then ?_
 refine cw_cond rfl (fun h0 => ?_) (fun h0 => ?_)
 ·
  try simp only [Z0, Z1, Z2, Z3, Z4, Z5, Z6, Z7, Z8, Z9] at h0
  have hE : (getF (vv v) id) = ([], 1) := by
   rw [getF, if_pos]
   rintro ⟨a1, a2, a3⟩
   rw [a1] at h0
   simp only [Bool.true_eq_false, false_or] at h0
   simp only [vv] at a3
   omega
  refine cw_seq ?_
  refine cw_region ?_
  refine sq_r (ry_assign rfl) ?_
  refine sq_r (ry_assign rfl) ?_
  refine sq_nil ?_
  refine ex_then ?_
  refine cw_ret ?_
  refine ex_pass_ret ?_
  refine ex_ret (.inl rfl) (res_2 rfl (rv_tmp rfl) (rv_tmp rfl)) (fun w1 hw => ?_)
  exact ⟨Sv.none, by rw [hE]; rfl, trivial, by rw [hE]; exact Mem.nilOwn benc 1 (Keep.mem hw : Mem w [] _)⟩
 ·
  try simp only [Z0, Z1, Z2, Z3, Z4, Z5, Z6, Z7, Z8, Z9] at h0
  have hq : rightF (vv v) = true ∧ 0 ≤ id ∧ id < v.at_.xs.length := by
   cases hk : rightF (vv v) with
   | false => rw [hk] at h0; simp at h0
   | true => rw [hk] at h0; simp only [Bool.true_eq_false, false_or] at h0; exact ⟨rfl, by omega, by omega⟩
  have hq9 : ¬ ¬ (rightF (vv v) = true ∧ 0 ≤ id ∧ id < (vv v).at_.length) := fun h => h hq
  obtain ⟨hr, hi0, hi1⟩ := hq
  refine cw_skip ?_
  refine ex_then ?_
  refine cw_seq ?_
  refine cw_seq ?_
  refine cw_region ?_
  refine sq_r (ry_field (o' := 0) rfl rfl) ?_
  refine sq_r (ry_field (o' := 4) rfl rfl) ?_
  refine sq_r (ry_cellc rfl) ?_
  refine sq_nil ?_
  refine ex_then ?_
  refine cw_cond rfl (fun h1 => ?_) (fun h1 => ?_)
  ·
   try simp only [Z0, Z1, Z2, Z3, Z4, Z5, Z6, Z7, Z8, Z9] at h1
   have hE : (getF (vv v) id) = ([], 7) := by rw [getF, if_neg hq9, if_pos (show (vv v).chip.off = true from h1)]
   refine cw_seq ?_
   refine cw_region ?_
   refine sq_r (ry_assign rfl) ?_
   refine sq_r (ry_assign rfl) ?_
   refine sq_nil ?_
   refine ex_then ?_
   refine cw_ret ?_
   refine ex_pass_ret ?_
   refine ex_ret (.inl rfl) (res_2 rfl (rv_tmp rfl) (rv_tmp rfl)) (fun w1 hw => ?_)
   exact ⟨Sv.none, by rw [hE]; rfl, trivial, by rw [hE]; exact Mem.nilOwn benc 1 (Keep.mem hw : Mem w [] _)⟩
  ·
   try simp only [Z0, Z1, Z2, Z3, Z4, Z5, Z6, Z7, Z8, Z9] at h1
   have hof : ¬ (vv v).chip.off = true := by rw [show (vv v).chip.off = v.chip.off from rfl, h1]; simp
   obtain ⟨y, hy⟩ := get_some (xs := v.at_.xs) (i := id.toNat) (by omega)
   have hyg : (vv v).at_.getD id.toNat 0 = y := getD_of hy
   refine cw_skip ?_
   refine ex_then ?_
   refine cw_seq ?_
   refine cw_seq ?_
   refine cw_region ?_
   refine sq_r (ry_field (o' := 6) rfl rfl) ?_
   refine sq_r (ry_cellc rfl) ?_
   refine sq_r (ry_move rfl) ?_
   refine sq_r (ry_idxH rfl rfl id.toNat (by omega) (by omega)) ?_
   refine sq_r (ry_elemcH (j := 0) rfl id.toNat hy rfl (by decide)) ?_
   refine sq_r (ry_int rfl rfl rfl) ?_
   refine sq_nil ?_
   refine ex_then ?_
   refine cw_cond rfl (fun h2 => ?_) (fun h2 => ?_)
   ·
    try simp only [Z0, Z1, Z2, Z3, Z4, Z5, Z6, Z7, Z8, Z9] at h2
    have hE : (getF (vv v) id) = ([], 6) := by rw [getF, if_neg hq9, if_neg hof, hyg, if_pos h2]
    refine cw_seq ?_
    refine cw_region ?_
    refine sq_r (ry_assign rfl) ?_
    refine sq_r (ry_assign rfl) ?_
    refine sq_nil ?_
    refine ex_then ?_
    refine cw_ret ?_
    refine ex_pass_ret ?_
    refine ex_ret (.inl rfl) (res_2 rfl (rv_tmp rfl) (rv_tmp rfl)) (fun w1 hw => ?_)
    exact ⟨Sv.none, by rw [hE]; rfl, trivial, by rw [hE]; exact Mem.nilOwn benc 1 (Keep.mem hw : Mem w [] _)⟩
   ·
    try simp only [Z0, Z1, Z2, Z3, Z4, Z5, Z6, Z7, Z8, Z9] at h2
    have hE : (getF (vv v) id) = (bodyF (cv v.chip) (v.at_.xs.getD id.toNat 0), 0) := by rw [getF, if_neg hq9, if_neg hof, if_neg (by rw [hyg]; exact h2)]; rfl
    have hra := right_at hr hy h2
    refine cw_skip ?_
    refine ex_then ?_
    refine cw_seq ?_
    refine cw_region ?_
    refine sq_r (ry_whole rfl) ?_
    refine sq_r (ry_move rfl) ?_
    refine sq_callC rfl ⟨(right_ok hr).1, y, hy, hi0, hra.1, hra.2.1, (placeOk_iff.1 hra.2.2).1, (placeOk_iff.1 hra.2.2).2.1⟩ fun x31 hp31 => ?_
    refine sq_r (ry_assign rfl) ?_
    refine sq_r (ry_assign rfl) ?_
    refine sq_nil ?_
    refine ex_then ?_
    refine cw_ret ?_
    refine ex_ret (.inl rfl) (res_2 rfl (rv_tmp rfl) (rv_tmp rfl)) (fun w1 hw => ?_)
    exact ⟨x31, by rw [hE], trivial, by rw [hE]; exact Keep.mem hw⟩
instance fget_i {w0 : World} {L : List Ent} {v : Vol} {id : Int} [hv : HdD w0 L v] : FnC Tryz.prog 15 w0 L [.agg (vlcells v), .int .i64 id] (Sv) (fun zz => .tuple #[zz.val, .int .i64 ((getF (vv v) id).2)]) (fun zz => own benc 1 zz (getF (vv v) id).1 :: L) (fun zz => True) (True) := ⟨fun hp w hw => (fget_c w v id (hv.h w hw)).mono fun e w' ⟨x, h1, h2, h3⟩ => ⟨x, h1, h2, hw.call h3⟩⟩

end Go.Proofs.YtaipiecplldinaaGreat

/- References: volumes. -/
namespace Go.Proofs.YtaipiecplldinaaGreat
open Go.Eng Go.Kb
open Go.RowKit
theorem rmay11_c (w : World) (c : Cp) (hc : Deep.good (hp w) c) : Calls Tryz.prog 45 #[.agg (cpcells c)] w fun e w' => e = .returned (.bool (bearsF (cv c))) ∧ Mem w [] w' := by
 have ghc : GvD w c := ⟨hc⟩
 refine calls_of (args := [_]) Tryz.func45 rfl Tryz.ntmps45 rfl ?_
 change Cw _ _ _ _ _ [(0, .agg (cpcells c))] []
 refine cw_seq ?_
 refine cw_region ?_
 refine sq_boxA rfl fun b1 => ?_
 refine sq_r (ry_assign rfl) ?_
 refine sq_nil ?_
 refine ex_then ?_
 refine cw_seq ?_
 refine cw_region ?_
 refine sq_r (ry_whole rfl) ?_
 refine sq_y (yl_callC rfl trivial) ?_
 refine sq_r (ry_move rfl) ?_
 refine sq_gt rfl rfl rfl (fun hg => (Ry.yl (ry_field (o' := 2) rfl rfl))) ?_
 refine sq_gt rfl rfl rfl (fun hg => (Ry.yl (ry_cellc (ev_c hg rfl)))) ?_
 refine sq_gt rfl rfl rfl (fun hg => (Ry.yl (ry_lenH (ev_c hg rfl)))) ?_
 refine sq_gt rfl rfl rfl (fun hg => (Ry.yl (ry_int (ev_c hg rfl) rfl rfl))) ?_
 refine sq_r (ry_and rfl rfl rfl) ?_
 refine sq_r (ry_move rfl) ?_
 refine sq_gt rfl rfl rfl (fun hg => (Ry.yl (ry_field (o' := 0) rfl rfl))) ?_
 refine sq_gt rfl rfl rfl (fun hg => (Ry.yl (ry_cellc (ev_c hg rfl)))) ?_
 refine sq_gt rfl rfl rfl (fun hg => (Ry.yl (ry_int (ev_c hg rfl) rfl rfl))) ?_
 refine sq_r (ry_and rfl rfl rfl) ?_
 refine sq_r (ry_move rfl) ?_
 refine sq_gt rfl rfl rfl (fun hg => (Ry.yl (ry_field (o' := 1) rfl rfl))) ?_
 refine sq_gt rfl rfl rfl (fun hg => (Ry.yl (ry_cellc (ev_c hg rfl)))) ?_
 refine sq_gt rfl rfl rfl (fun hg => (Ry.yl (ry_int (ev_c hg rfl) rfl rfl))) ?_
 refine sq_r (ry_and rfl rfl rfl) ?_
 refine sq_r (ry_assign rfl) ?_
 refine sq_nil ?_
 refine ex_then ?_
 refine cw_ret ?_
 refine ex_ret (.inl rfl) (res_1 rfl (rv_tmp rfl)) (fun w1 hw => ?_)
 exact ⟨congrArg (fun b => Ending.returned (Value.bool b)) ((by simp only [bearsF, cv, bvs_length]; rfl)), Keep.mem hw⟩
instance rmay11_i {w0 : World} {L : List Ent} {c : Cp} [hc : HdD w0 L c] : FnQ Tryz.prog 45 w0 L [.agg (cpcells c)] (.bool (bearsF (cv c))) (True) := ⟨fun hp w hw => rmay11_c w c (hc.h w hw)⟩
theorem rfound_c (w : World) (c : Cp) (hc : Deep.good (hp w) c) (hpre : bearsF (cv c) = true) : Calls Tryz.prog 46 #[.agg (cpcells c)] w fun e w' => ∃ zz : Vol, e = .returned (.tuple #[.agg (vlcells zz), .int .i64 ((foundR (cv c)).2)]) ∧ (vv zz = (foundR (cv c)).1 ∧ (zz.chip = c ∨ zz.chip = zCp)) ∧ Mem w [own iec 1 zz.at_.sv zz.at_.xs] w' := by
 have ghc : GvD w c := ⟨hc⟩
 have hbe := bearsF_iff.1 hpre
 have hk := hbe.1
 have hcb : (cv c).blocks.length = c.blocks.xs.length := bvs_length _
 have hso := soundF_iff.1 (chipOk_iff.1 hk).1
 obtain ⟨B0, hB0⟩ := get_some (xs := c.blocks.xs) (i := 0) (by omega)
 obtain ⟨B1, hB1⟩ := get_some (xs := c.blocks.xs) (i := 1) (by omega)
 have mbB0 : Mb B0 c.blocks := ⟨List.mem_of_getElem? hB0⟩
 have mbB1 : Mb B1 c.blocks := ⟨List.mem_of_getElem? hB1⟩
 have o0 := (bkOk_iff.1 ((chipOk_iff.1 hk).2.2.2.2 (bv B0) (List.mem_of_getElem? (bvs_get hB0)))).1
 have o1 := (bkOk_iff.1 ((chipOk_iff.1 hk).2.2.2.2 (bv B1) (List.mem_of_getElem? (bvs_get hB1)))).1
 have ht0 := txs_length B0.pages.xs
 have ht1 := txs_length B1.pages.xs
 simp only [bv, cv] at o0 o1 hso
 have hT : (txs (([] : List (Sl UInt8)) ++ B0.pages.xs ++ B1.pages.xs)) = (blkAt (cv c) 0).pages ++ (blkAt (cv c) 1).pages := by
  rw [show blkAt (cv c) 0 = bv B0 from blkAt_of hB0, show blkAt (cv c) 1 = bv B1 from blkAt_of hB1]
  simp [txs, bv]
 have htl : ((blkAt (cv c) 0).pages ++ (blkAt (cv c) 1).pages).length = B0.pages.xs.length + B1.pages.xs.length := by rw [← hT, txs_length]; simp only [List.length_append, List.length_nil]; omega
 have hat := nwF_at (l := (blkAt (cv c) 0).pages ++ (blkAt (cv c) 1).pages) (by rw [htl]; omega)
 have hn0 : 0 ≤ (rootsAt (cv c)).1 := hat.1
 have hn1 : (rootsAt (cv c)).1 < c.pages + c.pages := by have := hat.2; rw [htl] at this; change (rootsAt (cv c)).1 < _ at this; omega
 have gva : GvAll w (([] : List (Sl UInt8)) ++ B0.pages.xs ++ B1.pages.xs) := ⟨fun y hy => by
  simp only [List.nil_append, List.mem_append] at hy
  rcases hy with hy | hy
  ·
   exact (hc.1.2 B0 mbB0.h).2 y hy
  ·
   exact (hc.1.2 B1 mbB1.h).2 y hy⟩
 have hlb0 : 0 ≤ ((rootsAt (cv c)).1 / c.pages) := Int.ediv_nonneg hn0 (by omega)
 have hlb1 : ((rootsAt (cv c)).1 / c.pages) < 2 := Int.ediv_lt_of_lt_mul (by omega) (by omega)
 have hok := nwF_ok ((blkAt (cv c) 0).pages ++ (blkAt (cv c) 1).pages)
 have hNr : 0 ≤ (rootsAt (cv c)).1 % c.pages := Int.emod_nonneg _ (by omega)
 obtain ⟨BL, hBL⟩ := get_some (xs := c.blocks.xs) (i := ((rootsAt (cv c)).1 / c.pages).toNat) (by omega)
 have hBLu : (blkAt (cv c) ((rootsAt (cv c)).1 / c.pages)).used = BL.used := by rw [blk_of hBL]; rfl
 refine calls_of (args := [_]) Tryz.func46 rfl Tryz.ntmps46 rfl ?_
 change Cw _ _ _ _ _ [(0, .agg (cpcells c))] []
 refine cw_seq ?_
 refine cw_region ?_
 refine sq_boxA rfl fun b1 => ?_
 refine sq_allocA fun b2 => ?_
 refine sq_r (ry_assign rfl) ?_
 refine sq_nil ?_
 refine ex_then ?_
 refine cw_seq ?_
 refine cw_lin [0, 6, 12] [[], [], [], [], [], [], [0], [], [], [], [], [], [0, 6], [0, 6, 12]] [1, 2, 3, 4, 5, 7, 8, 9, 10, 11, 0, 6, 12, 13] [blk b1 (cpcells c) 25] (fun _ hw => Keep.mem hw) (by kernel_rfl) (by kernel_rfl) ?_
 refine ln_r rfl (ry_field (o' := 2) rfl rfl) ?_
 refine ln_r rfl (ry_cellc rfl) ?_
 refine ln_r rfl (ry_idxH rfl rfl 0 rfl (by omega)) ?_
 refine ln_r rfl (ry_field rfl rfl) ?_
 refine ln_r rfl (ry_elemcH (j := 0) rfl 0 hB0 rfl (by decide)) ?_
 refine ln_r rfl (ry_field (o' := 2) rfl rfl) ?_
 refine ln_r rfl (ry_cellc rfl) ?_
 refine ln_r rfl (ry_idxH rfl rfl 1 rfl (by omega)) ?_
 refine ln_r rfl (ry_field rfl rfl) ?_
 refine ln_r rfl (ry_elemcH (j := 0) rfl 1 hB1 rfl (by decide)) ?_
 refine ln_st rfl (st_build0 (scells (τ := UInt8)) fun b12 => ⟨fun _ hw => Keep.mem hw, ?_⟩)
 refine ln_st rfl (st_append (s := ⟨false, b12, 0, 0, 0, none⟩) (enc := (scells (τ := UInt8))) (ys := B0.pages.xs) rfl rfl (by decide) (fun w hw => src_rows (s := B0.pages.sv) Tryz.underlying46 (by decide) ((inferInstance : HdE _ _ (scells (τ := UInt8)) 1 B0.pages.sv B0.pages.xs).h w hw)) (by simp only [List.length_append, List.length_nil]; omega) (by simp only [List.length_append, List.length_nil]; omega) fun s18 hs18 hl18 => ⟨fun _ hw => Keep.mem hw, ?_⟩)
 refine ln_st rfl (st_append (s := s18) (enc := (scells (τ := UInt8))) (ys := B1.pages.xs) rfl rfl (by decide) (fun w hw => src_rows (s := B1.pages.sv) Tryz.underlying46 (by decide) ((inferInstance : HdE _ _ (scells (τ := UInt8)) 1 B1.pages.sv B1.pages.xs).h w hw)) (by simp only [List.length_append, List.length_nil]; omega) (by simp only [List.length_append, List.length_nil]; omega) fun s24 hs24 hl24 => ⟨fun _ hw => Keep.mem hw, ?_⟩)
 refine ln_r rfl (ry_assign rfl) ?_
 refine ln_nil ?_
 refine ex_then ?_
 refine cw_seq ?_
 refine cw_region ?_
 refine sq_r (ry_move rfl) ?_
 refine sq_callC (hc := rrtnew_i (l := (⟨s24, (([] : List (Sl UInt8)) ++ B0.pages.xs ++ B1.pages.xs)⟩ : Sl (Sl UInt8)))) rfl trivial fun x27 hp27 => ?_
 have hr1 : (nwF (txs (([] : List (Sl UInt8)) ++ B0.pages.xs ++ B1.pages.xs))).1 = (rootsAt (cv c)).1 := by rw [hT]; rfl
 have hr3 : (nwF (txs (([] : List (Sl UInt8)) ++ B0.pages.xs ++ B1.pages.xs))).2.2 = (rootsAt (cv c)).2.2 := by rw [hT]; rfl
 have hr2 : rvv x27 = (rootsAt (cv c)).2.1 := by rw [hp27, hT]; rfl
 have hrg : x27.gen.toNat = (rootsAt (cv c)).2.1.gen := congrArg RV.gen hr2
 have hra : x27.at_.xs = (rootsAt (cv c)).2.1.at_ := congrArg RV.at_ hr2
 have hrl : x27.at_.xs.length ≤ 64 := by rw [hra]; exact (nwF_few _).1
 have hrn : ∀ y ∈ x27.at_.xs, 0 ≤ y ∧ y ≤ 65535 := by rw [hra]; exact hok
 have hlk : lastOk (cv c) = (decide ((rootsAt (cv c)).1 % c.pages < BL.used) && placedF (cv c) x27.at_.xs) := by rw [lastOk, ← hra, ← hBLu]; rfl
 refine sq_r (ry_move rfl) ?_
 refine sq_r (ry_extract (v := .int .i64 ((nwF (txs (([] : List (Sl UInt8)) ++ B0.pages.xs ++ B1.pages.xs))).1)) rfl rfl) ?_
 refine sq_r (ry_extract (v := .agg (rtcells x27)) rfl rfl) ?_
 refine sq_r (ry_extract (v := .int .i64 ((nwF (txs (([] : List (Sl UInt8)) ++ B0.pages.xs ++ B1.pages.xs))).2.2)) rfl rfl) ?_
 refine sq_allocA fun b6 => ?_
 refine sq_r (ry_assign rfl) ?_
 refine sq_storeW rfl rfl ?_
 refine sq_r (ry_assign rfl) ?_
 refine sq_nil ?_
 refine ex_then ?_
 refine cw_seq ?_
 refine cw_seq ?_
 refine cw_region ?_
 refine sq_r (ry_move rfl) ?_
 refine sq_r (ry_int rfl rfl rfl) ?_
 refine sq_nil ?_
 refine ex_then ?_
 refine cw_cond rfl (fun h0 => ?_) (fun h0 => ?_)
 ·
  try simp only [Z0, Z1, Z2, Z3, Z4, Z5, Z6, Z7, Z8, Z9] at h0
  rw [hr3] at h0
  have hE : foundR (cv c) = (zVV, (rootsAt (cv c)).2.2) := by rw [foundR, if_pos h0]
  refine cw_seq ?_
  refine cw_region ?_
  refine sq_r (ry_build (v := .agg (vlcells zVol)) rfl (fun w => by kernel_rfl)) ?_
  refine sq_r (ry_move rfl) ?_
  refine sq_storeW rfl rfl ?_
  refine sq_r (ry_assign rfl) ?_
  refine sq_nil ?_
  refine ex_then ?_
  refine cw_ret ?_
  refine ex_pass_ret ?_
  refine ex_ret (.inl rfl) (res_2 rfl (rv_agg rfl) (rv_tmp rfl)) (fun w1 hw => ?_)
  exact ⟨zVol, by rw [hE, hr3], ⟨by rw [hE]; rfl, .inr rfl⟩, Mem.nilOwn iec 1 (Keep.mem hw : Mem w [] _)⟩
 ·
  try simp only [Z0, Z1, Z2, Z3, Z4, Z5, Z6, Z7, Z8, Z9] at h0
  rw [hr3] at h0
  refine cw_skip ?_
  refine ex_then ?_
  refine cw_seq ?_
  refine cw_seq ?_
  refine cw_quiet (by kernel_rfl) (by kernel_rfl) ?_
  refine qt_r (ry_move rfl) ?_
  refine qt_r (ry_field (o' := 0) rfl rfl) ?_
  refine qt_r (ry_cellc rfl) ?_
  refine qt_r (ry_rem rfl rfl (by omega) (by omega)) ?_
  refine qt_r (ry_field (o' := 2) rfl rfl) ?_
  refine qt_r (ry_cellc rfl) ?_
  refine qt_r (ry_move rfl) ?_
  refine qt_r (ry_field (o' := 0) rfl rfl) ?_
  refine qt_r (ry_cellc rfl) ?_
  refine qt_r (ry_quo rfl rfl (by omega) (by omega)) ?_
  refine qt_r (ry_idxH rfl rfl (((rootsAt (cv c)).1 / c.pages).toNat) (by rw [hr1]; omega) (by omega)) ?_
  refine qt_r (ry_field rfl rfl) ?_
  refine qt_r (ry_elemcH (j := 1) rfl (((rootsAt (cv c)).1 / c.pages).toNat) hBL rfl (by decide)) ?_
  refine qt_r (ry_int rfl rfl rfl) ?_
  refine qt_nil ?_
  refine ex_then ?_
  refine cw_cond rfl (fun h1 => ?_) (fun h1 => ?_)
  ·
   try simp only [Z0, Z1, Z2, Z3, Z4, Z5, Z6, Z7, Z8, Z9] at h1
   rw [hr1] at h1
   have hlo : lastOk (cv c) = false := by rw [hlk, decide_eq_false (by omega)]; rfl
   have hE : foundR (cv c) = (zVV, 2) := by rw [foundR, if_neg (by omega), if_pos hlo]
   refine cw_seq ?_
   refine cw_region ?_
   refine sq_r (ry_build (v := .agg (vlcells zVol)) rfl (fun w => by kernel_rfl)) ?_
   refine sq_storeW rfl rfl ?_
   refine sq_r (ry_assign rfl) ?_
   refine sq_nil ?_
   refine ex_then ?_
   refine cw_ret ?_
   refine ex_pass_ret ?_
   refine ex_ret (.inl rfl) (res_2 rfl (rv_agg rfl) (rv_tmp rfl)) (fun w1 hw => ?_)
   exact ⟨zVol, by rw [hE], ⟨by rw [hE]; rfl, .inr rfl⟩, Mem.nilOwn iec 1 (Keep.mem hw : Mem w [] _)⟩
  ·
   try simp only [Z0, Z1, Z2, Z3, Z4, Z5, Z6, Z7, Z8, Z9] at h1
   rw [hr1] at h1
   have hus : decide ((rootsAt (cv c)).1 % c.pages < BL.used) = true := decide_eq_true (by omega)
   refine cw_skip ?_
   refine ex_then ?_
   refine cw_seq ?_
   refine cw_seq ?_
   refine cw_region ?_
   refine sq_r (ry_assign rfl) ?_
   refine sq_nil ?_
   refine ex_then ?_
   refine cw_block ?_
   refine cw_loop (X := Nat) (fun zz => [(8, .int .i64 (zz : Nat)), (1, .pointer (some ⟨b1, 0, none⟩)), (2, .pointer (some ⟨b2, 0, none⟩)), (5, .int .i64 ((nwF (txs (([] : List (Sl UInt8)) ++ B0.pages.xs ++ B1.pages.xs))).1)), (6, .pointer (some ⟨b6, 0, none⟩))]) (fun zz => [blk b6 (rtcells x27) 147, own iec 1 x27.at_.sv x27.at_.xs, blk b1 (cpcells c) 25, blk b2 (vlcells zVol) 29]) (fun zz => zz ≤ x27.at_.xs.length ∧ ∀ j, j < zz → plcAt (cv c) x27.at_.xs j = true) (fun zz => x27.at_.xs.length - zz) 0 ⟨Nat.zero_le _, fun j hj => by first | omega | (simp only []; omega)⟩ (Sub.cons rfl (Sub.cons rfl (Sub.cons rfl (Sub.cons rfl (Sub.cons rfl (Sub.nil _)))))) (fun w hw => Keep.mem hw) ?_
   rintro i ⟨hi1, hi2⟩
   refine cw_seq ?_
   refine cw_seq ?_
   refine cw_region ?_
   refine sq_r (ry_move rfl) ?_
   refine sq_r (ry_field (o' := 1) rfl rfl) ?_
   refine sq_r (ry_cellc rfl) ?_
   refine sq_r (ry_lenH rfl) ?_
   refine sq_r (ry_int rfl rfl rfl) ?_
   refine sq_nil ?_
   refine ex_then ?_
   refine cw_cond rfl (fun h2 => ?_) (fun h2 => ?_)
   ·
    try simp only [Z0, Z1, Z2, Z3, Z4, Z5, Z6, Z7, Z8, Z9] at h2
    have rg9 : Rg 0 i x27.at_.xs.length := ⟨by omega, by omega⟩
    obtain ⟨y, hy⟩ := get_some (xs := x27.at_.xs) (i := i) (by omega)
    have hyg := getD_of hy
    have hyr := hrn y (List.mem_of_getElem? hy)
    have hpa := plcAt_def (c := cv c) hyg
    refine cw_skip ?_
    refine ex_then ?_
    refine cw_seq ?_
    refine cw_block ?_
    refine cw_seq ?_
    refine cw_region ?_
    refine sq_r (ry_field (o' := 1) rfl rfl) ?_
    refine sq_r (ry_cellc rfl) ?_
    refine sq_r (ry_move rfl) ?_
    refine sq_r (ry_idxH rfl rfl i rfl (by omega)) ?_
    refine sq_r (ry_elemcH (j := 0) rfl i hy rfl (by decide)) ?_
    refine sq_r (ry_sub rfl rfl (by omega)) ?_
    skip
    refine sq_r (ry_assign rfl) ?_
    refine sq_nil ?_
    refine ex_then ?_
    refine cw_seq ?_
    refine cw_seq ?_
    refine cw_region ?_
    refine sq_r (ry_move rfl) ?_
    refine sq_r (ry_int rfl rfl rfl) ?_
    refine sq_nil ?_
    refine ex_then ?_
    refine cw_cond rfl (fun h3 => ?_) (fun h3 => ?_)
    ·
     try simp only [Z0, Z1, Z2, Z3, Z4, Z5, Z6, Z7, Z8, Z9] at h3
     have hplc : plcAt (cv c) x27.at_.xs i = true := by rw [hpa, decide_eq_true (show y = 0 by omega)]; rfl
     refine cw_exit ?_
     refine ex_pass_exit ?_
     refine ex_block_hit ?_
     refine ex_then ?_
     refine cw_region ?_
     refine sq_r (ry_move rfl) ?_
     refine sq_r (ry_add rfl rfl (by omega)) ?_
     refine sq_r (ry_assign rfl) ?_
     refine sq_nil ?_
     exact ex_again (x := (i)) (i + 1) ⟨by first | omega | (simp only []; omega), fun j hj => if e : j = i then e ▸ hplc else hi2 j (by first | omega | (simp only []; omega))⟩ (by first | omega | (simp only []; omega)) (Sub.cons rfl (Sub.cons rfl (Sub.cons rfl (Sub.cons rfl (Sub.cons rfl (Sub.nil _)))))) (fun w hw => Keep.mem hw)
    ·
     try simp only [Z0, Z1, Z2, Z3, Z4, Z5, Z6, Z7, Z8, Z9] at h3
     have hq0 : 0 ≤ ((y - 1) / c.pages) := Int.ediv_nonneg (by omega) (by omega)
     have hq1 : ((y - 1) / c.pages) ≤ y - 1 := Int.ediv_le_self _ (by omega)
     have hm0 : 0 ≤ ((y - 1) % c.pages) := Int.emod_nonneg _ (by omega)
     have hm1 : ((y - 1) % c.pages) < c.pages := Int.emod_lt_of_pos _ (by omega)
     have hue : (c.blocks.xs.getD ((y - 1) / c.pages).toNat zBk).used = (blkAt (cv c) ((y - 1) / c.pages)).used := congrArg BV.used (blkAt_eq (c := c))
     have hct : ((x27.at_.xs.drop 0).take (i - 0)).contains (y - 1 + 1) = (x27.at_.xs.take i).contains y := by rw [List.drop_zero, Nat.sub_zero, Int.sub_add_cancel]
     refine cw_skip ?_
     refine ex_then ?_
     refine cw_seq ?_
     refine cw_seq ?_
     refine cw_quiet (by kernel_rfl) (by kernel_rfl) ?_
     refine qt_r (ry_move rfl) ?_
     refine qt_r (ry_field (o' := 0) rfl rfl) ?_
     refine qt_r (ry_cellc rfl) ?_
     refine qt_r (ry_quo rfl rfl (by omega) (by omega)) ?_
     refine qt_r (ry_int rfl rfl rfl) ?_
     refine qt_r (ry_move rfl) ?_
     refine qt_gf rfl rfl rfl (fun hg => (Ry.yl (ry_move rfl))) ?_
     refine qt_gf rfl rfl rfl (fun hg => (Ry.yl (ry_field (o' := 0) rfl rfl))) ?_
     refine qt_gf rfl rfl rfl (fun hg => (Ry.yl (ry_cellc (ev_c hg rfl)))) ?_
     refine qt_gf rfl rfl rfl (fun hg => (Ry.yl (ry_quo (ev_c hg rfl) (ev_c hg rfl) (by simp only [Z0, Z1, Z2, Z3, Z4, Z5, Z6, Z7, Z8, Z9] at hg; omega) (by simp only [Z0, Z1, Z2, Z3, Z4, Z5, Z6, Z7, Z8, Z9] at hg; omega)))) ?_
     refine qt_gf rfl rfl rfl (fun hg => (Ry.yl (ry_field (o' := 2) rfl rfl))) ?_
     refine qt_gf rfl rfl rfl (fun hg => (Ry.yl (ry_cellc (ev_c hg rfl)))) ?_
     refine qt_gf rfl rfl rfl (fun hg => (Ry.yl (ry_lenH (ev_c hg rfl)))) ?_
     refine qt_gf rfl rfl rfl (fun hg => (Ry.yl (ry_int (ev_c hg rfl) (ev_c hg rfl) rfl))) ?_
     refine qt_r (ry_or rfl rfl rfl) ?_
     refine qt_r (ry_move rfl) ?_
     refine qt_gf rfl rfl rfl (fun hg => (Ry.yl (ry_move rfl))) ?_
     refine qt_gf rfl rfl rfl (fun hg => (Ry.yl (ry_field (o' := 0) rfl rfl))) ?_
     refine qt_gf rfl rfl rfl (fun hg => (Ry.yl (ry_cellc (ev_c hg rfl)))) ?_
     refine qt_gf rfl rfl rfl (fun hg => (Ry.yl (ry_rem (ev_c hg rfl) (ev_c hg rfl) (by simp only [Z0, Z1, Z2, Z3, Z4, Z5, Z6, Z7, Z8, Z9] at hg; omega) (by simp only [Z0, Z1, Z2, Z3, Z4, Z5, Z6, Z7, Z8, Z9] at hg; omega)))) ?_
     refine qt_gf rfl rfl rfl (fun hg => (Ry.yl (ry_field (o' := 2) rfl rfl))) ?_
     refine qt_gf rfl rfl rfl (fun hg => (Ry.yl (ry_cellc (ev_c hg rfl)))) ?_
     refine qt_gf rfl rfl rfl (fun hg => (Ry.yl (ry_move rfl))) ?_
     refine qt_gf rfl rfl rfl (fun hg => (Ry.yl (ry_field (o' := 0) rfl rfl))) ?_
     refine qt_gf rfl rfl rfl (fun hg => (Ry.yl (ry_cellc (ev_c hg rfl)))) ?_
     refine qt_gf rfl rfl rfl (fun hg => (Ry.yl (ry_quo (ev_c hg rfl) (ev_c hg rfl) (by simp only [Z0, Z1, Z2, Z3, Z4, Z5, Z6, Z7, Z8, Z9] at hg; omega) (by simp only [Z0, Z1, Z2, Z3, Z4, Z5, Z6, Z7, Z8, Z9] at hg; omega)))) ?_
     refine qt_gf rfl rfl rfl (fun hg => (Ry.yl (ry_idxH (ev_c hg rfl) (ev_c hg rfl) (((y - 1) / c.pages).toNat) (by simp only [Z0, Z1, Z2, Z3, Z4, Z5, Z6, Z7, Z8, Z9] at hg; omega) (by simp only [Z0, Z1, Z2, Z3, Z4, Z5, Z6, Z7, Z8, Z9] at hg; omega)))) ?_
     refine qt_gf rfl rfl rfl (fun hg => (Ry.yl (ry_field (ev_c hg rfl) rfl))) ?_
     refine qt_gf rfl rfl rfl (fun hg => (Ry.yl (ry_elemcH (j := 1) (ev_c hg rfl) (((y - 1) / c.pages).toNat) (get_getD (xs := c.blocks.xs) (i := ((y - 1) / c.pages).toNat) (d := zBk) (by simp only [Z0, Z1, Z2, Z3, Z4, Z5, Z6, Z7, Z8, Z9] at hg; omega)) rfl (by decide)))) ?_
     refine qt_gf rfl rfl rfl (fun hg => (Ry.yl (ry_int (ev_c hg rfl) (ev_c hg rfl) rfl))) ?_
     refine qt_r (ry_or rfl rfl rfl) ?_
     refine qt_r (ry_move rfl) ?_
     refine qt_gf rfl rfl rfl (fun hg => (Ry.yl (ry_field (o' := 1) rfl rfl))) ?_
     refine qt_gf rfl rfl rfl (fun hg => (Ry.yl (ry_cellc (ev_c hg rfl)))) ?_
     refine qt_gf rfl rfl rfl (fun hg => (Ry.yl (ry_move rfl))) ?_
     refine qt_gf rfl rfl rfl (fun hg => (Ry.yl (ry_subH_hi (ev_c hg rfl) (ev_c hg rfl) i rfl (by simp only [Z0, Z1, Z2, Z3, Z4, Z5, Z6, Z7, Z8, Z9] at hg; omega)))) ?_
     refine qt_gf rfl rfl rfl (fun hg => (Ry.yl (ry_move rfl))) ?_
     refine qt_gf rfl rfl rfl (fun hg => (Ry.yl (ry_add (ev_c hg rfl) rfl (by simp only [Z0, Z1, Z2, Z3, Z4, Z5, Z6, Z7, Z8, Z9] at hg; omega)))) ?_
     refine qt_gf rfl rfl rfl (fun hg => yl_callC (evl_cons (ev_c hg rfl) (evl_cons (ev_c hg rfl) evl_nil)) trivial) ?_
     refine qt_r (ry_or rfl rfl rfl) ?_
     refine qt_nil ?_
     refine ex_then ?_
     refine cw_cond rfl (fun h4 => ?_) (fun h4 => ?_)
     ·
      try simp only [Z0, Z1, Z2, Z3, Z4, Z5, Z6, Z7, Z8, Z9] at h4
      have hplc : plcAt (cv c) x27.at_.xs i = false := by
       rw [hpa, decide_eq_false (show ¬ y = 0 by omega), Bool.false_or]
       rw [hct] at h4
       cases hcc : (x27.at_.xs.take i).contains y with
       | true => rfl
       | false =>
        rw [hcc] at h4
        simp only [Bool.false_eq_true, or_false] at h4
        rw [namesF, show placeOk (cv c) (y - 1) = false from by
         cases hk9 : placeOk (cv c) (y - 1) with
         | false => rfl
         | true =>
          obtain ⟨g1, g2, g3⟩ := placeOk_iff.1 hk9
          change 2 ≤ ((y - 1) / c.pages) at g1
          change ((y - 1) / c.pages) < ((cv c).blocks.length : Int) at g2
          change ((y - 1) % c.pages) < (blkAt (cv c) ((y - 1) / c.pages)).used at g3
          rw [hcb] at g2
          omega]
        rfl
      have hlo : lastOk (cv c) = false := by
       rw [hlk]
       have : placedF (cv c) x27.at_.xs = false := by
        cases hk9 : placedF (cv c) x27.at_.xs with
        | false => rfl
        | true => have g := placedF_iff.1 hk9 i (by omega); rw [hplc] at g; cases g
       rw [this, Bool.and_false]
      have hE : foundR (cv c) = (zVV, 2) := by rw [foundR, if_neg (by omega), if_pos hlo]
      refine cw_seq ?_
      refine cw_region ?_
      refine sq_r (ry_build (v := .agg (vlcells zVol)) rfl (fun w => by kernel_rfl)) ?_
      refine sq_storeW rfl rfl ?_
      refine sq_r (ry_assign rfl) ?_
      refine sq_nil ?_
      refine ex_then ?_
      refine cw_ret ?_
      refine ex_pass_ret ?_
      refine ex_block_ret ?_
      refine ex_pass_ret ?_
      refine ex_pass_ret ?_
      refine ex_block_ret ?_
      refine ex_pass_ret ?_
      refine ex_ret (.inl rfl) (res_2 rfl (rv_agg rfl) (rv_tmp rfl)) (fun w1 hw => ?_)
      exact ⟨zVol, by rw [hE], ⟨by rw [hE]; rfl, .inr rfl⟩, Mem.nilOwn iec 1 (Keep.mem hw : Mem w [] _)⟩
     ·
      try simp only [Z0, Z1, Z2, Z3, Z4, Z5, Z6, Z7, Z8, Z9] at h4
      rw [hct] at h4
      have hncc : (x27.at_.xs.take i).contains y = false := h4.2
      obtain ⟨Bk, hBk⟩ := get_some (xs := c.blocks.xs) (i := ((y - 1) / c.pages).toNat) (by omega)
      have mbk : Mb Bk c.blocks := ⟨List.mem_of_getElem? hBk⟩
      have hBv := blk_of hBk
      have hgB : c.blocks.xs.getD ((y - 1) / c.pages).toNat zBk = Bk := by simp [List.getD, hBk]
      have hBo := (bkOk_iff.1 ((chipOk_iff.1 hk).2.2.2.2 (bv Bk) (List.mem_of_getElem? (bvs_get hBk)))).1
      have htk := txs_length Bk.pages.xs
      simp only [bv, cv] at hBo
      rw [hgB] at h4
      have hpl : placeOk (cv c) (y - 1) = true := placeOk_iff.2 ⟨show 2 ≤ ((y - 1) / c.pages) by omega, by show ((y - 1) / c.pages) < ((cv c).blocks.length : Int); omega, by show ((y - 1) % c.pages) < (blkAt (cv c) ((y - 1) / c.pages)).used; rw [hBv]; show _ < Bk.used; omega⟩
      obtain ⟨z, hz⟩ := get_some (xs := Bk.pages.xs) (i := ((y - 1) % c.pages).toNat) (by omega)
      have mbz : Mb z Bk.pages := ⟨List.mem_of_getElem? hz⟩
      have hpz : pageAt (cv c) (y - 1) = z.xs := by
       show (blkAt (cv c) ((y - 1) / c.pages)).pages.getD ((y - 1) % c.pages).toNat [] = z.xs
       rw [hBv]
       simp [bv, List.getD, txs_get hz]
      have hpg := refPg_pv z.sv z.xs
      have hpgk : (refPg z.sv z.xs).kind = (readF z.xs).1.kind := congrArg PV.kind hpg
      have hpgi : (refPg z.sv z.xs).id = (readF z.xs).1.id := congrArg PV.id hpg
      have hpa2 : plcAt (cv c) x27.at_.xs i = (decide ((readF z.xs).2 = 0) && decide ((readF z.xs).1.kind = 1) && decide ((readF z.xs).1.id = (i : Int))) := by
       rw [hpa, decide_eq_false (show ¬ y = 0 by omega), Bool.false_or, hncc, namesF, hpl, hpz]; rfl
      refine cw_skip ?_
      refine ex_then ?_
      refine cw_seq ?_
      refine cw_lin [19, 20] [[], [], [], [], [], [], [], [], [], [], [], [], [], [], [], [], [], [], [], [], [19], [19, 20]] [0, 1, 2, 3, 4, 5, 6, 7, 8, 9, 10, 11, 12, 13, 14, 15, 16, 17, 18, 19, 20, 21] [blk b1 (cpcells c) 25] (fun _ hw => Keep.mem hw) (by kernel_rfl) (by kernel_rfl) ?_
      refine ln_r rfl (ry_field (o' := 2) rfl rfl) ?_
      refine ln_r rfl (ry_cellc rfl) ?_
      refine ln_r rfl (ry_move rfl) ?_
      refine ln_r rfl (ry_field (o' := 0) rfl rfl) ?_
      refine ln_r rfl (ry_cellc rfl) ?_
      refine ln_r rfl (ry_quo rfl rfl (by omega) (by omega)) ?_
      refine ln_r rfl (ry_idxH rfl rfl (((y - 1) / c.pages).toNat) (by omega) (by omega)) ?_
      refine ln_r rfl (ry_field rfl rfl) ?_
      refine ln_r rfl (ry_elemcH (j := 0) rfl (((y - 1) / c.pages).toNat) hBk rfl (by decide)) ?_
      refine ln_r rfl (ry_move rfl) ?_
      refine ln_r rfl (ry_field (o' := 0) rfl rfl) ?_
      refine ln_r rfl (ry_cellc rfl) ?_
      refine ln_r rfl (ry_rem rfl rfl (by omega) (by omega)) ?_
      refine ln_r rfl (ry_idxH rfl rfl (((y - 1) % c.pages).toNat) (by omega) (by omega)) ?_
      refine ln_r rfl (ry_elemcH (j := 0) rfl (((y - 1) % c.pages).toNat) hz rfl (by decide)) ?_
      refine ln_y rfl (yl_callC rfl trivial) ?_
      refine ln_r rfl (ry_move rfl) ?_
      refine ln_r rfl (ry_extract (v := .agg (pgcells (refPg z.sv z.xs))) rfl rfl) ?_
      refine ln_r rfl (ry_extract (v := .int .i64 ((readF z.xs).2)) rfl rfl) ?_
      refine ln_st rfl (st_allocA fun b10 => ⟨fun _ hw => Keep.mem hw, ?_⟩)
      refine ln_st rfl (st_storeW rfl rfl ⟨fun _ hw => Keep.mem hw, ?_⟩)
      refine ln_r rfl (ry_assign rfl) ?_
      refine ln_nil ?_
      refine ex_then ?_
      refine cw_seq ?_
      refine cw_region ?_
      refine sq_r (ry_move rfl) ?_
      refine sq_r (ry_int rfl rfl rfl) ?_
      refine sq_r (ry_move rfl) ?_
      refine sq_gf rfl rfl rfl (fun hg => (Ry.yl (ry_field (o' := 0) rfl rfl))) ?_
      refine sq_gf rfl rfl rfl (fun hg => (Ry.yl (ry_cellc (ev_c hg rfl)))) ?_
      refine sq_gf rfl rfl rfl (fun hg => (Ry.yl (ry_int (ev_c hg rfl) rfl rfl))) ?_
      refine sq_r (ry_or rfl rfl rfl) ?_
      refine sq_r (ry_move rfl) ?_
      refine sq_gf rfl rfl rfl (fun hg => (Ry.yl (ry_field (o' := 1) rfl rfl))) ?_
      refine sq_gf rfl rfl rfl (fun hg => (Ry.yl (ry_cellc (ev_c hg rfl)))) ?_
      refine sq_gf rfl rfl rfl (fun hg => (Ry.yl (ry_move rfl))) ?_
      refine sq_gf rfl rfl rfl (fun hg => (Ry.yl (ry_int (ev_c hg rfl) (ev_c hg rfl) rfl))) ?_
      refine sq_r (ry_or rfl rfl rfl) ?_
      refine sq_nil ?_
      refine ex_then ?_
      refine cw_cond rfl (fun h5 => ?_) (fun h5 => ?_)
      ·
       try simp only [Z0, Z1, Z2, Z3, Z4, Z5, Z6, Z7, Z8, Z9] at h5
       have hplc : plcAt (cv c) x27.at_.xs i = false := by
        rw [hpa2, ← hpgk, ← hpgi]
        rcases h5 with (h | h) | h
        ·
         rw [decide_eq_false h]; rfl
        ·
         rw [decide_eq_false h, Bool.and_false]; rfl
        ·
         rw [decide_eq_false h, Bool.and_false]
       have hlo : lastOk (cv c) = false := by
        rw [hlk]
        have : placedF (cv c) x27.at_.xs = false := by
         cases hk9 : placedF (cv c) x27.at_.xs with
         | false => rfl
         | true => have g := placedF_iff.1 hk9 i (by omega); rw [hplc] at g; cases g
        rw [this, Bool.and_false]
       have hE : foundR (cv c) = (zVV, 2) := by rw [foundR, if_neg (by omega), if_pos hlo]
       refine cw_seq ?_
       refine cw_region ?_
       refine sq_r (ry_build (v := .agg (vlcells zVol)) rfl (fun w => by kernel_rfl)) ?_
       refine sq_storeW rfl rfl ?_
       refine sq_r (ry_assign rfl) ?_
       refine sq_nil ?_
       refine ex_then ?_
       refine cw_ret ?_
       refine ex_block_ret ?_
       refine ex_pass_ret ?_
       refine ex_pass_ret ?_
       refine ex_block_ret ?_
       refine ex_pass_ret ?_
       refine ex_ret (.inl rfl) (res_2 rfl (rv_agg rfl) (rv_tmp rfl)) (fun w1 hw => ?_)
       exact ⟨zVol, by rw [hE], ⟨by rw [hE]; rfl, .inr rfl⟩, Mem.nilOwn iec 1 (Keep.mem hw : Mem w [] _)⟩
      ·
       try simp only [Z0, Z1, Z2, Z3, Z4, Z5, Z6, Z7, Z8, Z9] at h5
       have hplc : plcAt (cv c) x27.at_.xs i = true := by rw [hpa2, ← hpgk, ← hpgi, decide_eq_true h5.1.1, decide_eq_true h5.1.2, decide_eq_true h5.2]; rfl
       refine cw_skip ?_
       refine ex_block ?_
       refine ex_then ?_
       refine cw_region ?_
       refine sq_r (ry_move rfl) ?_
       refine sq_r (ry_add rfl rfl (by omega)) ?_
       refine sq_r (ry_assign rfl) ?_
       refine sq_nil ?_
       exact ex_again (x := (i)) (i + 1) ⟨by first | omega | (simp only []; omega), fun j hj => if e : j = i then e ▸ hplc else hi2 j (by first | omega | (simp only []; omega))⟩ (by first | omega | (simp only []; omega)) (Sub.cons rfl (Sub.cons rfl (Sub.cons rfl (Sub.cons rfl (Sub.cons rfl (Sub.nil _)))))) (fun w hw => Keep.mem hw)
   ·
    try simp only [Z0, Z1, Z2, Z3, Z4, Z5, Z6, Z7, Z8, Z9] at h2
    obtain rfl : i = x27.at_.xs.length := by omega
    have hlo : lastOk (cv c) = true := by rw [hlk, hus, placedF_iff.2 (fun j hj => hi2 j hj)]; rfl
    have hE : foundR (cv c) = (⟨cv c, (rootsAt (cv c)).2.1.at_, (rootsAt (cv c)).2.1.gen, (rootsAt (cv c)).1 / c.pages⟩, 0) := by rw [foundR, if_neg (by omega), if_neg (by rw [hlo]; simp)]; rfl
    refine cw_exit ?_
    refine ex_pass_exit ?_
    refine ex_pass_exit ?_
    refine ex_block_hit ?_
    refine ex_then ?_
    refine cw_seq ?_
    refine cw_lin [10] [[], [], [], [], [], [], [], [], [], [], [], [10]] [0, 1, 2, 3, 4, 5, 6, 7, 8, 9, 10, 11] [blk b1 (cpcells c) 25, blk b6 (rtcells x27) 147] (fun _ hw => Keep.mem hw) (by kernel_rfl) (by kernel_rfl) ?_
    refine ln_r rfl (ry_whole rfl) ?_
    refine ln_r rfl (ry_field (o' := 1) rfl rfl) ?_
    refine ln_r rfl (ry_cellc rfl) ?_
    refine ln_r rfl (ry_field (o' := 0) rfl rfl) ?_
    refine ln_r rfl (ry_cellc rfl) ?_
    refine ln_r rfl (ry_move rfl) ?_
    refine ln_r rfl (ry_field (o' := 0) rfl rfl) ?_
    refine ln_r rfl (ry_cellc rfl) ?_
    refine ln_r rfl (ry_quo rfl rfl (by omega) (by omega)) ?_
    refine ln_r rfl (ry_build (v := .agg (vlcells ⟨c, x27.at_, x27.gen, ((nwF (txs (([] : List (Sl UInt8)) ++ B0.pages.xs ++ B1.pages.xs))).1 / c.pages)⟩)) rfl (vol_build c x27.at_ x27.gen ((nwF (txs (([] : List (Sl UInt8)) ++ B0.pages.xs ++ B1.pages.xs))).1 / c.pages))) ?_
    refine ln_st rfl (st_storeW rfl rfl ⟨fun _ hw => Keep.mem hw, ?_⟩)
    refine ln_r rfl (ry_assign rfl) ?_
    refine ln_nil ?_
    refine ex_then ?_
    refine cw_ret ?_
    refine ex_ret (.inl rfl) (res_2 rfl (rv_agg rfl) (rv_tmp rfl)) (fun w1 hw => ?_)
    exact ⟨⟨c, x27.at_, x27.gen, ((nwF (txs (([] : List (Sl UInt8)) ++ B0.pages.xs ++ B1.pages.xs))).1 / c.pages)⟩, by rw [hE], ⟨by rw [hE]; simp only [vv, hra, hrg, hr1], .inl rfl⟩, Keep.mem hw⟩
instance rfound_i {w0 : World} {L : List Ent} {c : Cp} [hc : HdD w0 L c] : FnC Tryz.prog 46 w0 L [.agg (cpcells c)] (Vol) (fun zz => .tuple #[.agg (vlcells zz), .int .i64 ((foundR (cv c)).2)]) (fun zz => own iec 1 zz.at_.sv zz.at_.xs :: L) (fun zz => vv zz = (foundR (cv c)).1 ∧ (zz.chip = c ∨ zz.chip = zCp)) (bearsF (cv c) = true) := ⟨fun hp w hw => (rfound_c w c (hc.h w hw) hp).mono fun e w' ⟨x, h1, h2, h3⟩ => ⟨x, h1, h2, hw.call h3⟩⟩
theorem rmount11_c (w : World) (c : Cp) (hc : Deep.good (hp w) c) : Calls Tryz.prog 13 #[.agg (cpcells c)] w fun e w' => ∃ zz : Vol, e = .returned (.tuple #[.agg (vlcells zz), .int .i64 ((foundF (cv c)).2)]) ∧ (vv zz = (foundF (cv c)).1 ∧ (zz.chip = c ∨ zz.chip = zCp)) ∧ Mem w [own iec 1 zz.at_.sv zz.at_.xs] w' := by
 have ghc : GvD w c := ⟨hc⟩
 refine calls_of (args := [_]) Tryz.func13 rfl Tryz.ntmps13 rfl ?_
 change Cw _ _ _ _ _ [(0, .agg (cpcells c))] []
 refine cw_seq ?_
 refine cw_region ?_
 refine sq_boxA rfl fun b1 => ?_
 refine sq_allocA fun b2 => ?_
 refine sq_r (ry_assign rfl) ?_
 refine sq_nil ?_
 refine ex_then ?_
 refine cw_seq ?_
 refine cw_seq ?_
 refine cw_region ?_
 refine sq_r (ry_whole rfl) ?_
 refine sq_y (yl_callC rfl trivial) ?_
 refine sq_r (ry_not rfl) ?_
 refine sq_nil ?_
 refine ex_then ?_
 refine cw_cond rfl (fun h0 => ?_) (fun h0 => ?_)
 ·
  try simp only [Z0, Z1, Z2, Z3, Z4, Z5, Z6, Z7, Z8, Z9] at h0
  have hE : (foundF (cv c)) = (zVV, 1) := by rw [foundF_R, if_pos h0]
  refine cw_seq ?_
  refine cw_region ?_
  refine sq_r (ry_build (v := .agg (vlcells zVol)) rfl (fun w => by kernel_rfl)) ?_
  refine sq_storeW rfl rfl ?_
  refine sq_r (ry_assign rfl) ?_
  refine sq_nil ?_
  refine ex_then ?_
  refine cw_ret ?_
  refine ex_pass_ret ?_
  refine ex_ret (.inl rfl) (res_2 rfl (rv_agg rfl) (rv_tmp rfl)) (fun w1 hw => ?_)
  exact ⟨zVol, by rw [hE], ⟨by rw [hE]; rfl, .inr rfl⟩, Mem.nilOwn iec 1 (Keep.mem hw : Mem w [] _)⟩
 ·
  try simp only [Z0, Z1, Z2, Z3, Z4, Z5, Z6, Z7, Z8, Z9] at h0
  refine cw_skip ?_
  refine ex_then ?_
  refine cw_seq ?_
  refine cw_seq ?_
  refine cw_region ?_
  refine sq_r (ry_field (o' := 4) rfl rfl) ?_
  refine sq_r (ry_cellc rfl) ?_
  refine sq_nil ?_
  refine ex_then ?_
  refine cw_cond rfl (fun h1 => ?_) (fun h1 => ?_)
  ·
   try simp only [Z0, Z1, Z2, Z3, Z4, Z5, Z6, Z7, Z8, Z9] at h1
   have hE : (foundF (cv c)) = (zVV, 7) := by rw [foundF_R, if_neg (by rw [h0]; simp), if_pos (show (cv c).off = true from h1)]
   refine cw_seq ?_
   refine cw_region ?_
   refine sq_r (ry_build (v := .agg (vlcells zVol)) rfl (fun w => by kernel_rfl)) ?_
   refine sq_storeW rfl rfl ?_
   refine sq_r (ry_assign rfl) ?_
   refine sq_nil ?_
   refine ex_then ?_
   refine cw_ret ?_
   refine ex_pass_ret ?_
   refine ex_ret (.inl rfl) (res_2 rfl (rv_agg rfl) (rv_tmp rfl)) (fun w1 hw => ?_)
   exact ⟨zVol, by rw [hE], ⟨by rw [hE]; rfl, .inr rfl⟩, Mem.nilOwn iec 1 (Keep.mem hw : Mem w [] _)⟩
  ·
   try simp only [Z0, Z1, Z2, Z3, Z4, Z5, Z6, Z7, Z8, Z9] at h1
   have hE : (foundF (cv c)) = foundR (cv c) := by rw [foundF_R, if_neg (by rw [h0]; simp), if_neg (by rw [show (cv c).off = c.off from rfl, h1]; simp)]
   refine cw_skip ?_
   refine ex_then ?_
   refine cw_seq ?_
   refine cw_region ?_
   refine sq_r (ry_whole rfl) ?_
   refine sq_callC rfl h0 fun x12 hp12 => ?_
   refine sq_r (ry_extract (v := .agg (vlcells x12)) rfl rfl) ?_
   refine sq_r (ry_extract (v := .int .i64 ((foundR (cv c)).2)) rfl rfl) ?_
   refine sq_storeW rfl rfl ?_
   refine sq_r (ry_assign rfl) ?_
   refine sq_nil ?_
   refine ex_then ?_
   refine cw_ret ?_
   refine ex_ret (.inl rfl) (res_2 rfl (rv_agg rfl) (rv_tmp rfl)) (fun w1 hw => ?_)
   exact ⟨x12, by rw [hE], by rw [hE]; exact hp12, Keep.mem hw⟩
instance rmount11_i {w0 : World} {L : List Ent} {c : Cp} [hc : HdD w0 L c] : FnC Tryz.prog 13 w0 L [.agg (cpcells c)] (Vol) (fun zz => .tuple #[.agg (vlcells zz), .int .i64 ((foundF (cv c)).2)]) (fun zz => own iec 1 zz.at_.sv zz.at_.xs :: L) (fun zz => vv zz = (foundF (cv c)).1 ∧ (zz.chip = c ∨ zz.chip = zCp)) (True) := ⟨fun hp w hw => (rmount11_c w c (hc.h w hw)).mono fun e w' ⟨x, h1, h2, h3⟩ => ⟨x, h1, h2, hw.call h3⟩⟩
theorem rright11_c (w : World) (v : Vol) (hv : Deep.good (hp w) v) : Calls Tryz.prog 18 #[.agg (vlcells v)] w fun e w' => e = .returned (.bool (rightF (vv v))) ∧ Mem w [] w' := by
 have ghv : GvD w v := ⟨hv⟩
 refine calls_of (args := [_]) Tryz.func18 rfl Tryz.ntmps18 rfl ?_
 change Cw _ _ _ _ _ [(0, .agg (vlcells v))] []
 refine cw_seq ?_
 refine cw_region ?_
 refine sq_boxA rfl fun b1 => ?_
 refine sq_r (ry_assign rfl) ?_
 refine sq_nil ?_
 refine ex_then ?_
 refine cw_seq ?_
 refine cw_seq ?_
 refine cw_region ?_
 refine sq_r (ry_field (o' := 0) rfl rfl) ?_
 refine sq_r (ry_part rfl) ?_
 refine sq_y (yl_callC rfl trivial) ?_
 refine sq_r (ry_not rfl) ?_
 refine sq_nil ?_
 refine ex_then ?_
 refine cw_cond rfl (fun h0 => ?_) (fun h0 => ?_)
 ·
  try simp only [Z0, Z1, Z2, Z3, Z4, Z5, Z6, Z7, Z8, Z9] at h0
  have hE : rightF (vv v) = false := by rw [right_R, show bearsF (vv v).chip = false from h0]; rfl
  refine cw_seq ?_
  refine cw_region ?_
  refine sq_r (ry_assign rfl) ?_
  refine sq_nil ?_
  refine ex_then ?_
  refine cw_ret ?_
  refine ex_pass_ret ?_
  refine ex_ret (.inl rfl) (res_1 rfl (rv_tmp rfl)) (fun w1 hw => ?_)
  exact ⟨congrArg (fun b => Ending.returned (Value.bool b)) (hE.symm), Keep.mem hw⟩
 ·
  try simp only [Z0, Z1, Z2, Z3, Z4, Z5, Z6, Z7, Z8, Z9] at h0
  refine cw_skip ?_
  refine ex_then ?_
  refine cw_seq ?_
  refine cw_region ?_
  refine sq_r (ry_field (o' := 0) rfl rfl) ?_
  refine sq_r (ry_part rfl) ?_
  refine sq_callC rfl h0 fun x12 hp12 => ?_
  have hvg : x12.gen.toNat = (foundR (cv v.chip)).1.gen := congrArg VV.gen hp12.1
  have hvl : x12.last = (foundR (cv v.chip)).1.last := congrArg VV.last hp12.1
  have hva : x12.at_.xs = (foundR (cv v.chip)).1.at_ := congrArg VV.at_ hp12.1
  have hE : rightF (vv v) = (decide ((foundR (cv v.chip)).2 = 0) && decide (v.at_.xs = x12.at_.xs) && decide (v.gen.toNat = x12.gen.toNat) && decide (v.last = x12.last)) := by rw [right_R, show bearsF (vv v).chip = true from h0, hvg, hvl, hva]; rfl
  refine sq_r (ry_move rfl) ?_
  refine sq_r (ry_extract (v := .agg (vlcells x12)) rfl rfl) ?_
  refine sq_r (ry_extract (v := .int .i64 ((foundR (cv v.chip)).2)) rfl rfl) ?_
  refine sq_allocA fun b3 => ?_
  refine sq_storeW rfl rfl ?_
  refine sq_r (ry_assign rfl) ?_
  refine sq_nil ?_
  refine ex_then ?_
  refine cw_seq ?_
  refine cw_region ?_
  refine sq_r (ry_move rfl) ?_
  refine sq_r (ry_int rfl rfl rfl) ?_
  refine sq_r (ry_move rfl) ?_
  refine sq_gt rfl rfl rfl (fun hg => (Ry.yl (ry_field (o' := 6) rfl rfl))) ?_
  refine sq_gt rfl rfl rfl (fun hg => (Ry.yl (ry_cellc (ev_c hg rfl)))) ?_
  refine sq_gt rfl rfl rfl (fun hg => (Ry.yl (ry_field (o' := 6) rfl rfl))) ?_
  refine sq_gt rfl rfl rfl (fun hg => (Ry.yl (ry_cellc (ev_c hg rfl)))) ?_
  refine sq_gt rfl rfl rfl (fun hg => yl_callC (evl_cons (ev_c hg rfl) (evl_cons (ev_c hg rfl) evl_nil)) trivial) ?_
  refine sq_r (ry_and rfl rfl rfl) ?_
  refine sq_r (ry_move rfl) ?_
  refine sq_gt rfl rfl rfl (fun hg => (Ry.yl (ry_field (o' := 7) rfl rfl))) ?_
  refine sq_gt rfl rfl rfl (fun hg => (Ry.yl (ry_cellc (ev_c hg rfl)))) ?_
  refine sq_gt rfl rfl rfl (fun hg => (Ry.yl (ry_field (o' := 7) rfl rfl))) ?_
  refine sq_gt rfl rfl rfl (fun hg => (Ry.yl (ry_cellc (ev_c hg rfl)))) ?_
  refine sq_gt rfl rfl rfl (fun hg => (Ry.yl (ry_int (ev_c hg rfl) (ev_c hg rfl) rfl))) ?_
  refine sq_r (ry_and rfl rfl rfl) ?_
  refine sq_r (ry_move rfl) ?_
  refine sq_gt rfl rfl rfl (fun hg => (Ry.yl (ry_field (o' := 8) rfl rfl))) ?_
  refine sq_gt rfl rfl rfl (fun hg => (Ry.yl (ry_cellc (ev_c hg rfl)))) ?_
  refine sq_gt rfl rfl rfl (fun hg => (Ry.yl (ry_field (o' := 8) rfl rfl))) ?_
  refine sq_gt rfl rfl rfl (fun hg => (Ry.yl (ry_cellc (ev_c hg rfl)))) ?_
  refine sq_gt rfl rfl rfl (fun hg => (Ry.yl (ry_int (ev_c hg rfl) (ev_c hg rfl) rfl))) ?_
  refine sq_r (ry_and rfl rfl rfl) ?_
  refine sq_r (ry_assign rfl) ?_
  refine sq_nil ?_
  refine ex_then ?_
  refine cw_ret ?_
  refine ex_ret (.inl rfl) (res_1 rfl (rv_tmp rfl)) (fun w1 hw => ?_)
  exact ⟨congrArg (fun b => Ending.returned (Value.bool b)) ((by rw [hE, show decide (((v.gen.toNat : Nat) : Int) = ((x12.gen.toNat : Nat) : Int)) = decide (v.gen.toNat = x12.gen.toNat) from decide_eq_decide.2 (by omega)])), Keep.mem hw⟩
instance rright11_i {w0 : World} {L : List Ent} {v : Vol} [hv : HdD w0 L v] : FnQ Tryz.prog 18 w0 L [.agg (vlcells v)] (.bool (rightF (vv v))) (True) := ⟨fun hp w hw => rright11_c w v (hv.h w hw)⟩
theorem rget11_c (w : World) (v : Vol) (id : Int) (hv : Deep.good (hp w) v) : Calls Tryz.prog 16 #[.agg (vlcells v), .int .i64 id] w fun e w' => ∃ zz : Pge, e = .returned (.tuple #[zz.body.sv.val, .int .i64 ((getF (vv v) id).2)]) ∧ (zz.body.xs = (getF (vv v) id).1 ∧ (zz = zPge ∨ ∃ B z, B ∈ v.chip.blocks.xs ∧ z ∈ B.pages.xs ∧ zz = refPg z.sv z.xs)) ∧ Mem w [] w' := by
 have ghv : GvD w v := ⟨hv⟩
 refine calls_of (args := [_, _]) Tryz.func16 rfl Tryz.ntmps16 rfl ?_
 change Cw _ _ _ _ _ [(0, .agg (vlcells v)), (1, .int .i64 id)] []
 refine cw_seq ?_
 refine cw_region ?_
 refine sq_boxA rfl fun b2 => ?_
 refine sq_r (ry_assign rfl) ?_
 refine sq_r (ry_assign rfl) ?_
 refine sq_nil ?_
 refine ex_then ?_
 refine cw_seq ?_
 refine cw_seq ?_
 refine cw_region ?_
 refine sq_r (ry_whole rfl) ?_
 refine sq_y (yl_callC rfl trivial) ?_
 refine sq_r (ry_not rfl) ?_
 refine sq_r (ry_move rfl) ?_
 refine sq_gf rfl rfl rfl (fun hg => (Ry.yl (ry_move rfl))) ?_
 refine sq_gf rfl rfl rfl (fun hg => (Ry.yl (ry_int (ev_c hg rfl) rfl rfl))) ?_
 refine sq_r (ry_or rfl rfl rfl) ?_
 refine sq_r (ry_move rfl) ?_
 refine sq_gf rfl rfl rfl (fun hg => (Ry.yl (ry_move rfl))) ?_
 refine sq_gf rfl rfl rfl (fun hg => (Ry.yl (ry_field (o' := 6) rfl rfl))) ?_
 refine sq_gf rfl rfl rfl (fun hg => (Ry.yl (ry_cellc (ev_c hg rfl)))) ?_
 refine sq_gf rfl rfl rfl (fun hg => (Ry.yl (ry_lenH (ev_c hg rfl)))) ?_
 refine sq_gf rfl rfl rfl (fun hg => (Ry.yl (ry_int (ev_c hg rfl) (ev_c hg rfl) rfl))) ?_
 refine sq_r (ry_or rfl rfl rfl) ?_
 refine sq_nil ?_
 refine ex_then ?_
 refine cw_cond rfl (fun h0 => ?_) (fun h0 => ?_)
 ·
  try simp only [Z0, Z1, Z2, Z3, Z4, Z5, Z6, Z7, Z8, Z9] at h0
  have hE : (getF (vv v) id) = ([], 1) := by
   rw [getF, if_pos]
   rintro ⟨a1, a2, a3⟩
   rw [a1] at h0
   simp only [Bool.true_eq_false, false_or] at h0
   simp only [vv] at a3
   omega
  refine cw_seq ?_
  refine cw_region ?_
  refine sq_r (ry_assign rfl) ?_
  refine sq_r (ry_assign rfl) ?_
  refine sq_nil ?_
  refine ex_then ?_
  refine cw_ret ?_
  refine ex_pass_ret ?_
  refine ex_ret (.inl rfl) (res_2 rfl (rv_tmp rfl) (rv_tmp rfl)) (fun w1 hw => ?_)
  exact ⟨(zPge), by rw [hE]; rfl, ⟨by rw [hE]; rfl, .inl rfl⟩, Keep.mem hw⟩
 ·
  try simp only [Z0, Z1, Z2, Z3, Z4, Z5, Z6, Z7, Z8, Z9] at h0
  have hq : rightF (vv v) = true ∧ 0 ≤ id ∧ id < v.at_.xs.length := ⟨h0.1.1, by omega, by omega⟩
  have hq9 : ¬ ¬ (rightF (vv v) = true ∧ 0 ≤ id ∧ id < (vv v).at_.length) := fun h => h hq
  refine cw_skip ?_
  refine ex_then ?_
  refine cw_seq ?_
  refine cw_seq ?_
  refine cw_region ?_
  refine sq_r (ry_field (o' := 0) rfl rfl) ?_
  refine sq_r (ry_field (o' := 4) rfl rfl) ?_
  refine sq_r (ry_cellc rfl) ?_
  refine sq_nil ?_
  refine ex_then ?_
  refine cw_cond rfl (fun h1 => ?_) (fun h1 => ?_)
  ·
   try simp only [Z0, Z1, Z2, Z3, Z4, Z5, Z6, Z7, Z8, Z9] at h1
   have hE : (getF (vv v) id) = ([], 7) := by rw [getF, if_neg hq9, if_pos (show (vv v).chip.off = true from h1)]
   refine cw_seq ?_
   refine cw_region ?_
   refine sq_r (ry_assign rfl) ?_
   refine sq_r (ry_assign rfl) ?_
   refine sq_nil ?_
   refine ex_then ?_
   refine cw_ret ?_
   refine ex_pass_ret ?_
   refine ex_ret (.inl rfl) (res_2 rfl (rv_tmp rfl) (rv_tmp rfl)) (fun w1 hw => ?_)
   exact ⟨(zPge), by rw [hE]; rfl, ⟨by rw [hE]; rfl, .inl rfl⟩, Keep.mem hw⟩
  ·
   try simp only [Z0, Z1, Z2, Z3, Z4, Z5, Z6, Z7, Z8, Z9] at h1
   have hof : ¬ (vv v).chip.off = true := by rw [show (vv v).chip.off = v.chip.off from rfl, h1]; simp
   obtain ⟨y, hy⟩ := get_some (xs := v.at_.xs) (i := id.toNat) (by omega)
   have hyg : (vv v).at_.getD id.toNat 0 = y := getD_of hy
   refine cw_skip ?_
   refine ex_then ?_
   refine cw_seq ?_
   refine cw_seq ?_
   refine cw_region ?_
   refine sq_r (ry_field (o' := 6) rfl rfl) ?_
   refine sq_r (ry_cellc rfl) ?_
   refine sq_r (ry_move rfl) ?_
   refine sq_r (ry_idxH rfl rfl id.toNat (by omega) (by omega)) ?_
   refine sq_r (ry_elemcH (j := 0) rfl id.toNat hy rfl (by decide)) ?_
   refine sq_r (ry_int rfl rfl rfl) ?_
   refine sq_nil ?_
   refine ex_then ?_
   refine cw_cond rfl (fun h2 => ?_) (fun h2 => ?_)
   ·
    try simp only [Z0, Z1, Z2, Z3, Z4, Z5, Z6, Z7, Z8, Z9] at h2
    have hE : (getF (vv v) id) = ([], 6) := by rw [getF, if_neg hq9, if_neg hof, hyg, if_pos h2]
    refine cw_seq ?_
    refine cw_region ?_
    refine sq_r (ry_assign rfl) ?_
    refine sq_r (ry_assign rfl) ?_
    refine sq_nil ?_
    refine ex_then ?_
    refine cw_ret ?_
    refine ex_pass_ret ?_
    refine ex_ret (.inl rfl) (res_2 rfl (rv_tmp rfl) (rv_tmp rfl)) (fun w1 hw => ?_)
    exact ⟨(zPge), by rw [hE]; rfl, ⟨by rw [hE]; rfl, .inl rfl⟩, Keep.mem hw⟩
   ·
    try simp only [Z0, Z1, Z2, Z3, Z4, Z5, Z6, Z7, Z8, Z9] at h2
    have hra := right_at hq.1 hy h2
    have hrk := right_ok hq.1
    have hso := soundF_iff.1 (chipOk_iff.1 hrk.1).1
    have hbl : (cv v.chip).blocks.length = v.chip.blocks.xs.length := bvs_length _
    obtain ⟨g1, g2, g3⟩ := placeOk_iff.1 hra.2.2
    change 2 ≤ ((y - 1) / v.chip.pages) at g1
    change ((y - 1) / v.chip.pages) < ((cv v.chip).blocks.length : Int) at g2
    rw [hbl] at g2
    obtain ⟨Bk, hBk⟩ := get_some (xs := v.chip.blocks.xs) (i := ((y - 1) / v.chip.pages).toNat) (by omega)
    have mbk : Mb Bk v.chip.blocks := ⟨List.mem_of_getElem? hBk⟩
    have hBv := blk_of hBk
    have hBo := (bkOk_iff.1 ((chipOk_iff.1 hrk.1).2.2.2.2 (bv Bk) (List.mem_of_getElem? (bvs_get hBk)))).1
    have htk := txs_length Bk.pages.xs
    simp only [bv] at hBo
    change _ = v.chip.pages at hBo
    simp only [vv, cv] at hso
    have hm0 : 0 ≤ ((y - 1) % v.chip.pages) := Int.emod_nonneg _ (by omega)
    have hm1 : ((y - 1) % v.chip.pages) < v.chip.pages := Int.emod_lt_of_pos _ (by omega)
    obtain ⟨z, hz⟩ := get_some (xs := Bk.pages.xs) (i := ((y - 1) % v.chip.pages).toNat) (by omega)
    have mbz : Mb z Bk.pages := ⟨List.mem_of_getElem? hz⟩
    have hpz : pageAt (cv v.chip) (y - 1) = z.xs := by
     show (blkAt (cv v.chip) ((y - 1) / v.chip.pages)).pages.getD ((y - 1) % v.chip.pages).toNat [] = z.xs
     rw [hBv]
     simp [bv, List.getD, txs_get hz]
    have hpb : (refPg z.sv z.xs).body.xs = (readF z.xs).1.body := congrArg PV.body (refPg_pv z.sv z.xs)
    have hE : (getF (vv v) id) = ((refPg z.sv z.xs).body.xs, 0) := by
     rw [getF, if_neg hq9, if_neg hof, if_neg (by rw [hyg]; exact h2), hyg, bodyF, show (vv v).chip = cv v.chip from rfl, hpz, hpb]
     split
     ·
      rfl
     ·
      rename_i h; rw [readF_err h]; rfl
    refine cw_skip ?_
    refine ex_then ?_
    refine cw_seq ?_
    refine cw_region ?_
    refine sq_r (ry_field (o' := 6) rfl rfl) ?_
    refine sq_r (ry_cellc rfl) ?_
    refine sq_r (ry_move rfl) ?_
    refine sq_r (ry_idxH rfl rfl id.toNat (by omega) (by omega)) ?_
    refine sq_r (ry_elemcH (j := 0) rfl id.toNat hy rfl (by decide)) ?_
    refine sq_r (ry_sub rfl rfl (by omega)) ?_
    refine sq_r (ry_assign rfl) ?_
    refine sq_nil ?_
    refine ex_then ?_
    refine cw_seq ?_
    refine cw_lin [22, 23] [[], [], [], [], [], [], [], [], [], [], [], [], [], [], [], [], [], [], [], [], [], [], [], [22], [22, 23]] [0, 1, 2, 3, 4, 5, 6, 7, 8, 9, 10, 11, 12, 13, 14, 15, 16, 17, 18, 19, 20, 21, 22, 23, 24] [blk b2 (vlcells v) 29] (fun _ hw => Keep.mem hw) (by kernel_rfl) (by kernel_rfl) ?_
    refine ln_r rfl (ry_field (o' := 0) rfl rfl) ?_
    refine ln_r rfl (ry_field (o' := 2) rfl rfl) ?_
    refine ln_r rfl (ry_cellc rfl) ?_
    refine ln_r rfl (ry_move rfl) ?_
    refine ln_r rfl (ry_field (o' := 0) rfl rfl) ?_
    refine ln_r rfl (ry_field (o' := 0) rfl rfl) ?_
    refine ln_r rfl (ry_cellc rfl) ?_
    refine ln_r rfl (ry_quo rfl rfl (by omega) (by omega)) ?_
    refine ln_r rfl (ry_idxH rfl rfl (((y - 1) / v.chip.pages).toNat) (by omega) (by omega)) ?_
    refine ln_r rfl (ry_field rfl rfl) ?_
    refine ln_r rfl (ry_elemcH (j := 0) rfl (((y - 1) / v.chip.pages).toNat) hBk rfl (by decide)) ?_
    refine ln_r rfl (ry_move rfl) ?_
    refine ln_r rfl (ry_field (o' := 0) rfl rfl) ?_
    refine ln_r rfl (ry_field (o' := 0) rfl rfl) ?_
    refine ln_r rfl (ry_cellc rfl) ?_
    refine ln_r rfl (ry_rem rfl rfl (by omega) (by omega)) ?_
    refine ln_r rfl (ry_idxH rfl rfl (((y - 1) % v.chip.pages).toNat) (by omega) (by omega)) ?_
    refine ln_r rfl (ry_elemcH (j := 0) rfl (((y - 1) % v.chip.pages).toNat) hz rfl (by decide)) ?_
    refine ln_y rfl (yl_callC rfl trivial) ?_
    refine ln_r rfl (ry_move rfl) ?_
    refine ln_r rfl (ry_extract (v := .agg (pgcells (refPg z.sv z.xs))) rfl rfl) ?_
    refine ln_r rfl (ry_extract (v := .int .i64 ((readF z.xs).2)) rfl rfl) ?_
    refine ln_st rfl (st_allocA fun b7 => ⟨fun _ hw => Keep.mem hw, ?_⟩)
    refine ln_st rfl (st_storeW rfl rfl ⟨fun _ hw => Keep.mem hw, ?_⟩)
    refine ln_r rfl (ry_assign rfl) ?_
    refine ln_nil ?_
    refine ex_then ?_
    refine cw_seq ?_
    refine cw_region ?_
    refine sq_r (ry_field (o' := 3) rfl rfl) ?_
    refine sq_r (ry_cellc rfl) ?_
    refine sq_r (ry_assign rfl) ?_
    refine sq_r (ry_assign rfl) ?_
    refine sq_nil ?_
    refine ex_then ?_
    refine cw_ret ?_
    refine ex_ret (.inl rfl) (res_2 rfl (rv_tmp rfl) (rv_tmp rfl)) (fun w1 hw => ?_)
    exact ⟨(refPg z.sv z.xs), by rw [hE], ⟨by rw [hE], .inr ⟨Bk, z, mbk.h, mbz.h, rfl⟩⟩, Keep.mem hw⟩
instance rget11_i {w0 : World} {L : List Ent} {v : Vol} {id : Int} [hv : HdD w0 L v] : FnC Tryz.prog 16 w0 L [.agg (vlcells v), .int .i64 id] (Pge) (fun zz => .tuple #[zz.body.sv.val, .int .i64 ((getF (vv v) id).2)]) (fun zz => L) (fun zz => zz.body.xs = (getF (vv v) id).1 ∧ (zz = zPge ∨ ∃ B z, B ∈ v.chip.blocks.xs ∧ z ∈ B.pages.xs ∧ zz = refPg z.sv z.xs)) (True) := ⟨fun hp w hw => (rget11_c w v id (hv.h w hw)).mono fun e w' ⟨x, h1, h2, h3⟩ => ⟨x, h1, h2, hw.call h3⟩⟩
theorem rsame11_c (w : World) (a : Vol) (d : Vol) (ha : Deep.good (hp w) a) (hd : Deep.good (hp w) d) : Calls Tryz.prog 14 #[.agg (vlcells a), .agg (vlcells d)] w fun e w' => e = .returned (.bool (decide (vv a = vv d))) ∧ Mem w [] w' := by
 have gha : GvD w a := ⟨ha⟩
 have ghd : GvD w d := ⟨hd⟩
 refine calls_of (args := [_, _]) Tryz.func14 rfl Tryz.ntmps14 rfl ?_
 change Cw _ _ _ _ _ [(0, .agg (vlcells a)), (1, .agg (vlcells d))] []
 refine cw_seq ?_
 refine cw_region ?_
 refine sq_boxA rfl fun b2 => ?_
 refine sq_boxA rfl fun b3 => ?_
 refine sq_r (ry_assign rfl) ?_
 refine sq_nil ?_
 refine ex_then ?_
 refine cw_seq ?_
 refine cw_region ?_
 refine sq_r (ry_field (o' := 0) rfl rfl) ?_
 refine sq_r (ry_part rfl) ?_
 refine sq_r (ry_field (o' := 0) rfl rfl) ?_
 refine sq_r (ry_part rfl) ?_
 refine sq_y (yl_callC rfl trivial) ?_
 refine sq_r (ry_move rfl) ?_
 refine sq_gt rfl rfl rfl (fun hg => (Ry.yl (ry_field (o' := 6) rfl rfl))) ?_
 refine sq_gt rfl rfl rfl (fun hg => (Ry.yl (ry_cellc (ev_c hg rfl)))) ?_
 refine sq_gt rfl rfl rfl (fun hg => (Ry.yl (ry_field (o' := 6) rfl rfl))) ?_
 refine sq_gt rfl rfl rfl (fun hg => (Ry.yl (ry_cellc (ev_c hg rfl)))) ?_
 refine sq_gt rfl rfl rfl (fun hg => yl_callC (evl_cons (ev_c hg rfl) (evl_cons (ev_c hg rfl) evl_nil)) trivial) ?_
 refine sq_r (ry_and rfl rfl rfl) ?_
 refine sq_r (ry_move rfl) ?_
 refine sq_gt rfl rfl rfl (fun hg => (Ry.yl (ry_field (o' := 7) rfl rfl))) ?_
 refine sq_gt rfl rfl rfl (fun hg => (Ry.yl (ry_cellc (ev_c hg rfl)))) ?_
 refine sq_gt rfl rfl rfl (fun hg => (Ry.yl (ry_field (o' := 7) rfl rfl))) ?_
 refine sq_gt rfl rfl rfl (fun hg => (Ry.yl (ry_cellc (ev_c hg rfl)))) ?_
 refine sq_gt rfl rfl rfl (fun hg => (Ry.yl (ry_int (ev_c hg rfl) (ev_c hg rfl) rfl))) ?_
 refine sq_r (ry_and rfl rfl rfl) ?_
 refine sq_r (ry_move rfl) ?_
 refine sq_gt rfl rfl rfl (fun hg => (Ry.yl (ry_field (o' := 8) rfl rfl))) ?_
 refine sq_gt rfl rfl rfl (fun hg => (Ry.yl (ry_cellc (ev_c hg rfl)))) ?_
 refine sq_gt rfl rfl rfl (fun hg => (Ry.yl (ry_field (o' := 8) rfl rfl))) ?_
 refine sq_gt rfl rfl rfl (fun hg => (Ry.yl (ry_cellc (ev_c hg rfl)))) ?_
 refine sq_gt rfl rfl rfl (fun hg => (Ry.yl (ry_int (ev_c hg rfl) (ev_c hg rfl) rfl))) ?_
 refine sq_r (ry_and rfl rfl rfl) ?_
 refine sq_r (ry_assign rfl) ?_
 refine sq_nil ?_
 refine ex_then ?_
 refine cw_ret ?_
 refine ex_ret (.inl rfl) (res_1 rfl (rv_tmp rfl)) (fun w1 hw => ?_)
 exact ⟨congrArg (fun b => Ending.returned (Value.bool b)) ((by
  rw [show decide (((a.gen.toNat : Nat) : Int) = ((d.gen.toNat : Nat) : Int)) = decide (a.gen.toNat = d.gen.toNat) from decide_eq_decide.2 (by omega), Bool.eq_iff_iff]
  simp only [Bool.and_eq_true, decide_eq_true_eq]
  rw [vv_eq, and_assoc, and_assoc]; rfl)), Keep.mem hw⟩
instance rsame11_i {w0 : World} {L : List Ent} {a : Vol} {d : Vol} [ha : HdD w0 L a] [hd : HdD w0 L d] : FnQ Tryz.prog 14 w0 L [.agg (vlcells a), .agg (vlcells d)] (.bool (decide (vv a = vv d))) (True) := ⟨fun hp w hw => rsame11_c w a d (ha.h w hw) (hd.h w hw)⟩

end Go.Proofs.YtaipiecplldinaaGreat

/- A chip made. -/
namespace Go.Proofs.YtaipiecplldinaaGreat
open Go.Eng Go.Kb
open Go.RowKit
theorem cp_build (n s : Int) (b : Sv) (xs : List Bk) (w : World) : (Instr.build 25 #[(0, .int .i64 n), (1, .int .i64 s), (2, b.val)]).run Tryz.prog w = .ok (.agg (cpcells ⟨n, s, ⟨b, xs⟩, 0, false, ⟨Sv.none, []⟩⟩)) w := by
 unfold cpcells
 obtain ⟨e, b, o, l, c, p⟩ := b
 cases e <;> kernel_rfl
theorem cnew_c (w : World) (b : Int) (n : Int) (s : Int)  : Calls Tryz.prog 31 #[.int .i64 b, .int .i64 n, .int .i64 s] w fun e w' => ∃ zz : Cp, e = .returned (.tuple #[.agg (cpcells zz), .int .i64 ((newF b n s).2)]) ∧ (cv zz = (newF b n s).1) ∧ Mem w [fz zz] w' := by
 refine calls_of (args := [_, _, _]) Tryz.func31 rfl Tryz.ntmps31 rfl ?_
 change Cw _ _ _ _ _ [(0, .int .i64 b), (1, .int .i64 n), (2, .int .i64 s)] []
 refine cw_seq ?_
 refine cw_region ?_
 refine sq_allocA fun b6 => ?_
 refine sq_r (ry_assign rfl) ?_
 refine sq_nil ?_
 refine ex_then ?_
 refine cw_seq ?_
 refine cw_seq ?_
 refine cw_region ?_
 refine sq_r (ry_move rfl) ?_
 refine sq_r (ry_move rfl) ?_
 refine sq_r (ry_move rfl) ?_
 refine sq_y (yl_callC rfl trivial) ?_
 refine sq_r (ry_not rfl) ?_
 refine sq_nil ?_
 refine ex_then ?_
 refine cw_cond rfl (fun h0 => ?_) (fun h0 => ?_)
 ·
  try simp only [Z0, Z1, Z2, Z3, Z4, Z5, Z6, Z7, Z8, Z9] at h0
  have hN : newF b n s = (⟨0, 0, [], 0, false, []⟩, 1) := by rw [newF, if_neg (by rw [h0]; simp)]
  refine cw_seq ?_
  refine cw_region ?_
  refine sq_r (ry_build (v := .agg (cpcells zCp)) rfl (fun w => by kernel_rfl)) ?_
  refine sq_storeW rfl rfl ?_
  refine sq_r (ry_assign rfl) ?_
  refine sq_nil ?_
  refine ex_then ?_
  refine cw_ret ?_
  refine ex_pass_ret ?_
  refine ex_ret (.inl rfl) (res_2 rfl (rv_agg rfl) (rv_tmp rfl)) (fun w1 hw => ?_)
  exact ⟨zCp, by rw [hN], by rw [hN]; rfl, frzNew (d := zCp) rfl (show Mem w [own bkcells 4 Sv.none [], Ent.all []] _ from Keep.mem (Mem.bag0 (Mem.nilOwn bkcells 4 (Keep.mem hw : Mem w [] _))))⟩
 ·
  try simp only [Z0, Z1, Z2, Z3, Z4, Z5, Z6, Z7, Z8, Z9] at h0
  have hso := soundF_iff.1 h0
  have hN : newF b n s = (⟨n, s, List.replicate b.toNat (⟨List.replicate n.toNat (blankP s), 0, 0, false⟩ : BV), 0, false, []⟩, 0) := by rw [newF, if_pos h0]
  refine cw_skip ?_
  refine ex_then ?_
  refine cw_seq ?_
  refine cw_region ?_
  refine sq_r (ry_move rfl) ?_
  refine sq_r (ry_move rfl) ?_
  refine sq_r (ry_move rfl) ?_
  refine sq_makeS (enc := bkcells) (n := b.toNat) (cap := b.toNat) zBk rfl rfl rfl (by omega) (by omega) (by omega) (by omega) (by omega) fun b20 => ?_
  refine sq_r (ry_build (v := .agg (cpcells (⟨n, s, ⟨⟨false, b20, 0, b.toNat, b.toNat, none⟩, []⟩, 0, false, ⟨Sv.none, []⟩⟩ : Cp))) rfl (cp_build n s ⟨false, b20, 0, b.toNat, b.toNat, none⟩ [])) ?_
  refine sq_allocA fun b8 => ?_
  refine sq_storeW rfl rfl ?_
  refine sq_nil ?_
  refine ex_then ?_
  refine cw_seq ?_
  refine cw_seq ?_
  refine cw_region ?_
  refine sq_r (ry_move rfl) ?_
  refine sq_r (ry_move rfl) ?_
  refine sq_nil ?_
  refine ex_then ?_
  refine cw_block ?_
  refine cw_loop (X := Nat × List Bk) (fun zz => [(23, .int .i64 (zz.1 : Nat)), (8, .pointer (some ⟨b8, 0, none⟩)), (1, .int .i64 n), (2, .int .i64 s), (6, .pointer (some ⟨b6, 0, none⟩)), (22, .int .i64 b)]) (fun zz => [own bkcells 4 ⟨false, b20, 0, b.toNat, b.toNat, none⟩ zz.2, Ent.all ((zz.2.take zz.1).map fun b : Bk => fz b.pages), blk b8 (cpcells (⟨n, s, ⟨⟨false, b20, 0, b.toNat, b.toNat, none⟩, []⟩, 0, false, ⟨Sv.none, []⟩⟩ : Cp)) 25, blk b6 (cpcells zCp) 25]) (fun zz => zz.1 ≤ b.toNat ∧ zz.2.length = b.toNat ∧ (zz.2.take zz.1).map bv = List.replicate zz.1 (⟨List.replicate n.toNat (blankP s), 0, 0, false⟩ : BV) ∧ ∀ j, zz.1 ≤ j → j < b.toNat → zz.2[j]? = Option.some zBk) (fun zz => b.toNat - zz.1) (0, List.replicate b.toNat zBk) ⟨Nat.zero_le _, by simp, by simp, fun j _ hj => by simp [hj]⟩ (Sub.cons rfl (Sub.cons rfl (Sub.cons rfl (Sub.cons rfl (Sub.cons rfl (Sub.cons rfl (Sub.nil _))))))) (fun w hw => by
   simp only [List.take_zero, List.map_nil]; exact Keep.mem (Mem.bag0 hw)) ?_
  rintro ⟨i, zs⟩ ⟨hi1, hi2, hi3, hi4⟩
  dsimp only
  simp only at hi1 hi2 hi3 hi4
  refine cw_seq ?_
  refine cw_region ?_
  refine sq_r (ry_int rfl rfl rfl) ?_
  refine sq_nil ?_
  refine ex_then ?_
  refine cw_seq ?_
  refine cw_cond rfl (fun h1 => ?_) (fun h1 => ?_)
  ·
   try simp only [Z0, Z1, Z2, Z3, Z4, Z5, Z6, Z7, Z8, Z9] at h1
   obtain ⟨z, hz⟩ := get_some (xs := zs) (i := i) (by omega)
   obtain rfl : z = zBk := Option.some.inj (hz.symm.trans (hi4 i (Nat.le_refl _) (by omega)))
   have ok20 := sv_ok0 (b := b20) (n := b.toNat) (by omega)
   refine cw_skip ?_
   refine ex_then ?_
   refine cw_seq ?_
   refine cw_block ?_
   refine cw_seq ?_
   refine cw_region ?_
   refine sq_r (ry_move rfl) ?_
   refine sq_r (ry_assign rfl) ?_
   refine sq_nil ?_
   refine ex_then ?_
   refine cw_seq ?_
   refine cw_lin [4, 7] [[], [], [], [], [], [4], [4], [4]] [0, 1, 2, 3, 4, 5, 6, 7] [blk b8 (cpcells (⟨n, s, ⟨⟨false, b20, 0, b.toNat, b.toNat, none⟩, []⟩, 0, false, ⟨Sv.none, []⟩⟩ : Cp)) 25] (fun _ hw => Keep.mem hw) (by kernel_rfl) (by kernel_rfl) ?_
   refine ln_r rfl (ry_field (o' := 2) rfl rfl) ?_
   refine ln_r rfl (ry_cellc rfl) ?_
   refine ln_r rfl (ry_move rfl) ?_
   refine ln_r rfl (ry_move rfl) ?_
   refine ln_st rfl (st_makeS (enc := scells (τ := UInt8)) (n := n.toNat) (cap := n.toNat) (⟨Sv.none, []⟩ : Sl UInt8) rfl rfl rfl (by omega) (by omega) (by omega) (by omega) (by omega) fun b30 => ⟨fun _ hw => Keep.mem hw, ?_⟩)
   obtain ⟨e31, he31⟩ := get_some (xs := zs) (i := i) (by omega)
   refine ln_r rfl (ry_idxSv (s := ⟨false, b20, 0, b.toNat, b.toNat, none⟩) (i := i) rfl rfl rfl ok20 (by simp only; omega)) ?_
   refine ln_r rfl (ry_field rfl rfl) ?_
   refine ln_st rfl (st_storeS (s := ⟨false, b20, 0, b.toNat, b.toNat, none⟩) (n := 1) (k := i) (j := 0) (a := zBk) (a' := ⟨⟨⟨false, b30, 0, n.toNat, n.toNat, none⟩, []⟩, 0, 0, false⟩) (xs := zs) (enc := bkcells) (c := 4) (v := (⟨false, b30, 0, n.toNat, n.toNat, none⟩ : Sv).val) (by kernel_rfl) rfl rfl rfl hz (by rw [Sv.cells_val]; simp [Sv.one]) (by rw [Sv.cells_val]; rfl) (by decide) (by rw [Sv.cells_val]; rfl) ⟨fun _ hw => Keep.mem hw, ?_⟩)
   refine ln_nil ?_
   refine ex_then ?_
   refine cw_seq ?_
   have hzm : (zs.set i ⟨⟨⟨false, b30, 0, n.toNat, n.toNat, none⟩, []⟩, 0, 0, false⟩)[i]? = Option.some (⟨⟨⟨false, b30, 0, n.toNat, n.toNat, none⟩, []⟩, 0, 0, false⟩ : Bk) := List.getElem?_set_self (by omega)
   have hzl : (zs.set i ⟨⟨⟨false, b30, 0, n.toNat, n.toNat, none⟩, []⟩, 0, 0, false⟩).length = b.toNat := by rw [List.length_set]; exact hi2
   refine cw_region ?_
   refine sq_r (ry_move rfl) ?_
   refine sq_r (ry_move rfl) ?_
   refine sq_nil ?_
   refine ex_then ?_
   refine cw_block ?_
   refine cw_loop (X := Nat × List (Sl UInt8)) (fun zz => [(34, .int .i64 (zz.1 : Nat)), (8, .pointer (some ⟨b8, 0, none⟩)), (1, .int .i64 n), (2, .int .i64 s), (6, .pointer (some ⟨b6, 0, none⟩)), (9, .int .i64 (i : Nat)), (22, .int .i64 b), (23, .int .i64 (i : Nat)), (33, .int .i64 n)]) (fun zz => [own (scells (τ := UInt8)) 1 ⟨false, b30, 0, n.toNat, n.toNat, none⟩ zz.2, Ent.all ((zz.2.take zz.1).map fun b : Sl UInt8 => fz b), own bkcells 4 ⟨false, b20, 0, b.toNat, b.toNat, none⟩ (zs.set i ⟨⟨⟨false, b30, 0, n.toNat, n.toNat, none⟩, []⟩, 0, 0, false⟩), Ent.all ((zs.take i).map fun b : Bk => fz b.pages), blk b8 (cpcells (⟨n, s, ⟨⟨false, b20, 0, b.toNat, b.toNat, none⟩, []⟩, 0, false, ⟨Sv.none, []⟩⟩ : Cp)) 25, blk b6 (cpcells zCp) 25]) (fun zz => zz.1 ≤ n.toNat ∧ zz.2.length = n.toNat ∧ txs (zz.2.take zz.1) = List.replicate zz.1 (blankP s)) (fun zz => n.toNat - zz.1) (0, List.replicate n.toNat ⟨Sv.none, []⟩) ⟨Nat.zero_le _, by simp, by simp [txs]⟩ (Sub.cons rfl (Sub.cons rfl (Sub.cons rfl (Sub.cons rfl (Sub.cons rfl (Sub.cons rfl (Sub.cons rfl (Sub.cons rfl (Sub.cons rfl (Sub.nil _)))))))))) (fun w hw => by
    simp only [List.take_zero, List.map_nil]
    exact Keep.mem (Mem.bag0 hw)) ?_
   rintro ⟨j, qs⟩ ⟨hj1, hj2, hj3⟩
   dsimp only
   simp only at hj1 hj2 hj3
   refine cw_seq ?_
   refine cw_region ?_
   refine sq_r (ry_int rfl rfl rfl) ?_
   refine sq_nil ?_
   refine ex_then ?_
   refine cw_seq ?_
   refine cw_cond rfl (fun h2 => ?_) (fun h2 => ?_)
   ·
    try simp only [Z0, Z1, Z2, Z3, Z4, Z5, Z6, Z7, Z8, Z9] at h2
    obtain ⟨y, hy⟩ := get_some (xs := qs) (i := j) (by omega)
    have ok30 := sv_ok0 (b := b30) (n := n.toNat) (by omega)
    refine cw_skip ?_
    refine ex_then ?_
    refine cw_seq ?_
    refine cw_block ?_
    refine cw_seq ?_
    refine cw_region ?_
    refine sq_r (ry_move rfl) ?_
    refine sq_r (ry_assign rfl) ?_
    refine sq_nil ?_
    refine ex_then ?_
    refine cw_seq ?_
    refine cw_lin [8, 10] [[], [], [], [], [], [], [], [], [], [8], [8]] [0, 1, 2, 3, 4, 5, 6, 7, 8, 9, 10] [blk b8 (cpcells (⟨n, s, ⟨⟨false, b20, 0, b.toNat, b.toNat, none⟩, []⟩, 0, false, ⟨Sv.none, []⟩⟩ : Cp)) 25, own bkcells 4 ⟨false, b20, 0, b.toNat, b.toNat, none⟩ (zs.set i ⟨⟨⟨false, b30, 0, n.toNat, n.toNat, none⟩, []⟩, 0, 0, false⟩)] (fun _ hw => Keep.mem hw) (by kernel_rfl) (by kernel_rfl) ?_
    refine ln_r rfl (ry_field (o' := 2) rfl rfl) ?_
    refine ln_r rfl (ry_cellc rfl) ?_
    refine ln_r rfl (ry_move rfl) ?_
    obtain ⟨e40, he40⟩ := get_some (xs := (zs.set i ⟨⟨⟨false, b30, 0, n.toNat, n.toNat, none⟩, []⟩, 0, 0, false⟩)) (i := i) (by omega)
    refine ln_r rfl (ry_idxH (s := ⟨false, b20, 0, b.toNat, b.toNat, none⟩) (xs := (zs.set i ⟨⟨⟨false, b30, 0, n.toNat, n.toNat, none⟩, []⟩, 0, 0, false⟩)) rfl rfl i rfl (by omega)) ?_
    refine ln_r rfl (ry_field rfl rfl) ?_
    refine ln_r rfl (Ry.to (v' := (⟨false, b30, 0, n.toNat, n.toNat, none⟩ : Sv).val) (ry_elemcH (s := ⟨false, b20, 0, b.toNat, b.toNat, none⟩) (j := 0) rfl i hzm rfl (by decide)) rfl) ?_
    refine ln_r rfl (ry_move rfl) ?_
    refine ln_r rfl (ry_move rfl) ?_
    refine ln_st rfl (st_makeS (enc := benc) (n := s.toNat) (cap := s.toNat) 0 rfl rfl rfl (by omega) (by omega) (by omega) (by omega) (by omega) fun b45 => ⟨fun _ hw => Keep.mem hw, ?_⟩)
    obtain ⟨e46, he46⟩ := get_some (xs := qs) (i := j) (by omega)
    refine ln_r rfl (ry_idxSv (s := ⟨false, b30, 0, n.toNat, n.toNat, none⟩) (i := j) rfl rfl rfl ok30 (by simp only; omega)) ?_
    refine ln_st rfl (st_storeSv (s := ⟨false, b30, 0, n.toNat, n.toNat, none⟩) (xs := qs) (k := j) (a := y) (⟨⟨false, b45, 0, s.toNat, s.toNat, none⟩, blankP s⟩ : Sl UInt8) (by kernel_rfl) rfl rfl (by omega) hy ⟨fun _ hw => Keep.mem hw, ?_⟩)
    refine ln_nil ?_
    refine ex_then ?_
    refine cw_region ?_
    refine sq_r (ry_field (o' := 2) rfl rfl) ?_
    refine sq_r (ry_cellc rfl) ?_
    refine sq_r (ry_move rfl) ?_
    obtain ⟨e50, he50⟩ := get_some (xs := (zs.set i ⟨⟨⟨false, b30, 0, n.toNat, n.toNat, none⟩, []⟩, 0, 0, false⟩)) (i := i) (by omega)
    refine sq_r (ry_idxH (s := ⟨false, b20, 0, b.toNat, b.toNat, none⟩) (xs := (zs.set i ⟨⟨⟨false, b30, 0, n.toNat, n.toNat, none⟩, []⟩, 0, 0, false⟩)) rfl rfl i rfl (by omega)) ?_
    refine sq_r (ry_field rfl rfl) ?_
    refine sq_r (Ry.to (v' := (⟨false, b30, 0, n.toNat, n.toNat, none⟩ : Sv).val) (ry_elemcH (s := ⟨false, b20, 0, b.toNat, b.toNat, none⟩) (j := 0) rfl i hzm rfl (by decide)) rfl) ?_
    refine sq_r (ry_move rfl) ?_
    refine sq_r (ry_idxH rfl rfl j rfl (by rw [List.length_set]; omega)) ?_
    refine sq_r (Ry.to (v' := .slice (some ⟨(⟨false, b45, 0, s.toNat, s.toNat, none⟩ : Sv).b, (⟨false, b45, 0, s.toNat, s.toNat, none⟩ : Sv).o + 0, none⟩) s.toNat s.toNat) (ry_elemcH (s := ⟨false, b30, 0, n.toNat, n.toNat, none⟩) (xs := qs.set j (⟨⟨false, b45, 0, s.toNat, s.toNat, none⟩, blankP s⟩ : Sl UInt8)) (j := 0) rfl j (List.getElem?_set_self (by omega)) rfl (by decide)) rfl) ?_
    refine sq_callC (hc := cfill_i (rm := ⟨false, b45, 0, s.toNat, s.toNat, none⟩) (k := 0) (n := s.toNat) (cap := s.toNat) (xs := List.replicate s.toNat 0)) rfl ⟨by simp, by omega⟩ fun x56 hp56 => ?_
    refine sq_nil ?_
    refine ex_block ?_
    refine ex_then ?_
    refine cw_region ?_
    refine sq_r (ry_add rfl rfl (by omega)) ?_
    refine sq_r (ry_move rfl) ?_
    refine sq_nil ?_
    exact ex_again (x := (j, qs)) (j + 1, qs.set j (⟨⟨false, b45, 0, s.toNat, s.toNat, none⟩, blankP s⟩ : Sl UInt8)) ⟨by first | omega | (simp only []; omega), by rw [List.length_set]; exact hj2, by rw [txs, take_next hy, ← txs, hj3, List.replicate_succ']⟩ (by simp only; omega) (Sub.cons rfl (Sub.cons rfl (Sub.cons rfl (Sub.cons rfl (Sub.cons rfl (Sub.cons rfl (Sub.cons rfl (Sub.cons rfl (Sub.cons rfl (Sub.nil _)))))))))) (fun w hw => by
     have h1 := frzU (a := (⟨⟨false, b45, 0, s.toNat, s.toNat, none⟩, blankP s⟩ : Sl UInt8)) (by
      simp only [List.take_zero, List.nil_append, Nat.zero_add, List.drop_replicate, Nat.sub_self, List.replicate_zero, List.append_nil] at hw
      exact (Keep.mem hw : Mem _ (own benc 1 ⟨false, b45, 0, s.toNat, s.toNat, none⟩ (List.replicate s.toNat 255) :: [own (scells (τ := UInt8)) 1 ⟨false, b30, 0, n.toNat, n.toNat, none⟩ (qs.set j (⟨⟨false, b45, 0, s.toNat, s.toNat, none⟩, blankP s⟩ : Sl UInt8)), Ent.all ((qs.take j).map fun b : Sl UInt8 => fz b), own bkcells 4 ⟨false, b20, 0, b.toNat, b.toNat, none⟩ (zs.set i ⟨⟨⟨false, b30, 0, n.toNat, n.toNat, none⟩, []⟩, 0, 0, false⟩), Ent.all ((zs.take i).map fun b : Bk => fz b.pages), blk b8 (cpcells (⟨n, s, ⟨⟨false, b20, 0, b.toNat, b.toNat, none⟩, []⟩, 0, false, ⟨Sv.none, []⟩⟩ : Cp)) 25, blk b6 (cpcells zCp) 25]) _))
     have h3 := Mem.bagSnoc (Keep.mem h1 : Mem _ (fz (⟨⟨false, b45, 0, s.toNat, s.toNat, none⟩, blankP s⟩ : Sl UInt8) :: Ent.all ((qs.take j).map fun b : Sl UInt8 => fz b) :: [own (scells (τ := UInt8)) 1 ⟨false, b30, 0, n.toNat, n.toNat, none⟩ (qs.set j (⟨⟨false, b45, 0, s.toNat, s.toNat, none⟩, blankP s⟩ : Sl UInt8)), own bkcells 4 ⟨false, b20, 0, b.toNat, b.toNat, none⟩ (zs.set i ⟨⟨⟨false, b30, 0, n.toNat, n.toNat, none⟩, []⟩, 0, 0, false⟩), Ent.all ((zs.take i).map fun b : Bk => fz b.pages), blk b8 (cpcells (⟨n, s, ⟨⟨false, b20, 0, b.toNat, b.toNat, none⟩, []⟩, 0, false, ⟨Sv.none, []⟩⟩ : Cp)) 25, blk b6 (cpcells zCp) 25]) _)
     rw [bag_nextP (z' := (⟨⟨false, b45, 0, s.toNat, s.toNat, none⟩, blankP s⟩ : Sl UInt8)) hy] at h3
     exact Keep.mem h3)
   ·
    try simp only [Z0, Z1, Z2, Z3, Z4, Z5, Z6, Z7, Z8, Z9] at h2
    have hjn : j = n.toNat := by omega
    have hjl : j = qs.length := by omega
    rw [List.take_of_length_le (by omega)] at hj3
    refine cw_exit ?_
    refine ex_pass_exit ?_
    refine ex_pass_exit ?_
    refine ex_block_hit ?_
    refine ex_block ?_
    refine ex_then ?_
    refine cw_region ?_
    refine sq_r (ry_add rfl rfl (by omega)) ?_
    refine sq_r (ry_move rfl) ?_
    refine sq_nil ?_
    exact ex_again (x := (i, zs)) (i + 1, zs.set i (⟨⟨⟨false, b30, 0, n.toNat, n.toNat, none⟩, qs⟩, 0, 0, false⟩ : Bk)) ⟨by first | omega | (simp only []; omega), by rw [List.length_set]; exact hi2, by rw [take_next hz, hi3, List.replicate_succ', show bv (⟨⟨⟨false, b30, 0, n.toNat, n.toNat, none⟩, qs⟩, 0, 0, false⟩ : Bk) = (⟨List.replicate n.toNat (blankP s), 0, 0, false⟩ : BV) by rw [bv, hj3, hjn]], fun k hk hk2 => by rw [List.getElem?_set_ne (by first | omega | (simp only []; omega))]; exact hi4 k (by first | omega | (simp only []; omega)) hk2⟩ (by simp only; omega) (Sub.cons rfl (Sub.cons rfl (Sub.cons rfl (Sub.cons rfl (Sub.cons rfl (Sub.cons rfl (Sub.nil _))))))) (fun w hw => by
     rw [List.take_of_length_le (by omega)] at hw
     have h1 := frzP' (Keep.mem hw : Mem _ (own (scells (τ := UInt8)) 1 ⟨false, b30, 0, n.toNat, n.toNat, none⟩ qs :: Ent.all (qs.map fun b : Sl UInt8 => fz b) :: [own bkcells 4 ⟨false, b20, 0, b.toNat, b.toNat, none⟩ (zs.set i ⟨⟨⟨false, b30, 0, n.toNat, n.toNat, none⟩, []⟩, 0, 0, false⟩), Ent.all ((zs.take i).map fun b : Bk => fz b.pages), blk b8 (cpcells (⟨n, s, ⟨⟨false, b20, 0, b.toNat, b.toNat, none⟩, []⟩, 0, false, ⟨Sv.none, []⟩⟩ : Cp)) 25, blk b6 (cpcells zCp) 25]) _)
     have h2 := own_same (ys := zs.set i (⟨⟨⟨false, b30, 0, n.toNat, n.toNat, none⟩, qs⟩, 0, 0, false⟩ : Bk)) (by rw [List.map_set, List.map_set]; rfl) (Keep.mem h1 : Mem _ (own bkcells 4 ⟨false, b20, 0, b.toNat, b.toNat, none⟩ (zs.set i ⟨⟨⟨false, b30, 0, n.toNat, n.toNat, none⟩, []⟩, 0, 0, false⟩) :: [fz (⟨⟨false, b30, 0, n.toNat, n.toNat, none⟩, qs⟩ : Sl (Sl UInt8)), Ent.all ((zs.take i).map fun b : Bk => fz b.pages), blk b8 (cpcells (⟨n, s, ⟨⟨false, b20, 0, b.toNat, b.toNat, none⟩, []⟩, 0, false, ⟨Sv.none, []⟩⟩ : Cp)) 25, blk b6 (cpcells zCp) 25]) _)
     have h3 := Mem.bagSnoc (Keep.mem h2 : Mem _ (fz (⟨⟨false, b30, 0, n.toNat, n.toNat, none⟩, qs⟩ : Sl (Sl UInt8)) :: Ent.all ((zs.take i).map fun b : Bk => fz b.pages) :: [own bkcells 4 ⟨false, b20, 0, b.toNat, b.toNat, none⟩ (zs.set i (⟨⟨⟨false, b30, 0, n.toNat, n.toNat, none⟩, qs⟩, 0, 0, false⟩ : Bk)), blk b8 (cpcells (⟨n, s, ⟨⟨false, b20, 0, b.toNat, b.toNat, none⟩, []⟩, 0, false, ⟨Sv.none, []⟩⟩ : Cp)) 25, blk b6 (cpcells zCp) 25]) _)
     rw [bag_nextF (z' := (⟨⟨⟨false, b30, 0, n.toNat, n.toNat, none⟩, qs⟩, 0, 0, false⟩ : Bk)) hz] at h3
     exact Keep.mem h3)
  ·
   try simp only [Z0, Z1, Z2, Z3, Z4, Z5, Z6, Z7, Z8, Z9] at h1
   obtain rfl : i = zs.length := by omega
   rw [List.take_length] at hi3
   refine cw_exit ?_
   refine ex_pass_exit ?_
   refine ex_pass_exit ?_
   refine ex_block_hit ?_
   refine ex_then ?_
   refine cw_seq ?_
   refine cw_region ?_
   refine sq_r (ry_whole rfl) ?_
   refine sq_storeW rfl rfl ?_
   refine sq_r (ry_assign rfl) ?_
   refine sq_nil ?_
   refine ex_then ?_
   refine cw_ret ?_
   refine ex_ret (.inl rfl) (res_2 rfl (rv_agg rfl) (rv_tmp rfl)) (fun w1 hw => ?_)
   exact ⟨⟨n, s, ⟨⟨false, b20, 0, b.toNat, b.toNat, none⟩, zs⟩, 0, false, ⟨Sv.none, []⟩⟩, by rw [hN]; rfl, by rw [hN]; simp only [cv, bvs]; rw [hi3, hi2], frzNew rfl (by rw [List.take_length] at hw; exact Keep.mem hw)⟩
instance cnew_i {w0 : World} {L : List Ent} {b : Int} {n : Int} {s : Int}  : FnC Tryz.prog 31 w0 L [.int .i64 b, .int .i64 n, .int .i64 s] (Cp) (fun zz => .tuple #[.agg (cpcells zz), .int .i64 ((newF b n s).2)]) (fun zz => fz zz :: L) (fun zz => cv zz = (newF b n s).1) (True) := ⟨fun hp w hw => (cnew_c w b n s ).mono fun e w' ⟨x, h1, h2, h3⟩ => ⟨x, h1, h2, hw.call h3⟩⟩

end Go.Proofs.YtaipiecplldinaaGreat

/- Blocks that a call is given by a pointer, and only reads; functions that are given as values. -/
namespace Go.Eng
open Go.RowKit
section
variable {P : Program} {N : Fra} {w0 : World} {env : Env} {L : List Ent} {d : Option Tmp} {ty : TypeId} {ps : String} {af : Array Edge} {gd : Option (Nat × Bool)}
class Blk (w0 : World) (L : List Ent) (b : Nat) (cs : outParam (Array Value)) (T : outParam TypeId) : Prop where
 h : ∀ w, Mem w0 L w → w.heap[b]? = some (.cells cs T (0, 0))
class OldB (w0 : World) (b : Nat) (cs : outParam (Array Value)) (T : outParam TypeId) : Prop where
 h : w0.heap[b]? = some (.cells cs T (0, 0))
instance (priority := high) Blk.has {b i : Nat} {cs : Array Value} {T : TypeId} [q : Has L b cs T i] : Blk w0 L b cs T := ⟨fun w hw => hw.block q.h⟩
instance Blk.old {b : Nat} {cs : Array Value} {T : TypeId} [q : OldB w0 b cs T] : Blk w0 L b cs T := ⟨fun w hw => by
 have hlt : b < w0.heap.size := by
  rcases Nat.lt_or_ge b w0.heap.size with h | h
  ·
   exact h
  ·
   have := q.h; simp [Array.getElem?_eq_none h] at this
 rw [hw.below.block b hlt]; exact q.h⟩
theorem Blk.cell {b : Nat} {cs : Array Value} {T : TypeId} (q : Blk w0 L b cs T) {w : World} (hw : Mem w0 L w) (o : Nat) : w.cell? ⟨b, o, none⟩ = cs[o]? := by
 simp [World.cell?, q.h w hw]
theorem ry_cellP {t : TypeId} {x : Operand} {b o : Nat} {cs : Array Value} {T : TypeId} {v : Value} (hx : ev env x = some (.pointer (some ⟨b, o, none⟩))) [ht : OneT P t] [hi : Blk w0 L b cs T] [hc : CellAt cs o v] :
  Ry P N w0 env L ⟨d, .load t x, ty, ps, af, gd⟩ v := ry_load_one ht hx fun w hw => by rw [hi.cell hw]; exact hc.h
theorem ry_partP {t : TypeId} {x : Operand} {b o n : Nat} {cs sub : Array Value} {T : TypeId} (hx : ev env x = some (.pointer (some ⟨b, o, none⟩))) [ht : RowT P t n] [hi : Blk w0 L b cs T] [hs : PartAt cs o n sub] :
  Ry P N w0 env L ⟨d, .load t x, ty, ps, af, gd⟩ (.agg sub) := ry_load_agg ht hx hs.size fun w hw j hj => by rw [Addr.add_none, hi.cell hw]; exact hs.h j hj
end
section
variable {w0 : World} {L : List Ent}
theorem mem_three {w0 w : World} {L R1 R2 R3 : List Ent} {e1 e2 e3 : Ent} {i j k : Nat} (h1 : L[i]? = some e1) (d1 : L.eraseIdx i = R1) (h2 : R1[j]? = some e2) (d2 : R1.eraseIdx j = R2) (h3 : R2[k]? = some e3) (d3 : R2.eraseIdx k = R3) (h : Mem w0 L w) : Mem w0 (e1 :: e2 :: e3 :: R3) w := by
 subst d1; subst d2; subst d3
 exact h.perm ((perm_erase h1).trans (((perm_erase h2).trans ((perm_erase h3).cons _)).cons _))
theorem mem_four {w0 w : World} {L R1 R2 R3 R4 : List Ent} {e1 e2 e3 e4 : Ent} {i j k l : Nat} (h1 : L[i]? = some e1) (d1 : L.eraseIdx i = R1) (h2 : R1[j]? = some e2) (d2 : R1.eraseIdx j = R2) (h3 : R2[k]? = some e3) (d3 : R2.eraseIdx k = R3) (h4 : R3[l]? = some e4) (d4 : R3.eraseIdx l = R4) (h : Mem w0 L w) : Mem w0 (e1 :: e2 :: e3 :: e4 :: R4) w := by
 subst d1; subst d2; subst d3; subst d4
 exact h.perm ((perm_erase h1).trans (((perm_erase h2).trans (((perm_erase h3).trans ((perm_erase h4).cons _)).cons _)).cons _))
end
instance (priority := low) Hd.tail {w0 : World} {L : List Ent} {e : Ent} {s : Sv} {α : Type} {enc : α → Array Value} {c : Nat} {xs : List α} [q : Hd w0 L s enc c xs] : Hd w0 (e :: L) s enc c xs := ⟨fun w hw => q.h w (hw.sub (List.sublist_cons_self _ _))⟩
instance (priority := low) HdD.tail {w0 : World} {L : List Ent} {e : Ent} {τ : Type} [Deep τ] {a : τ} [q : HdD w0 L a] : HdD w0 (e :: L) a := ⟨fun w hw => q.h w (hw.sub (List.sublist_cons_self _ _))⟩
theorem makes_ms {P : Program} {N : Fra} {env : Env} {α : Type} {enc : α → Array Value} {c n : Nat} {t e : TypeId} {by' : Nat} {z : Value} {x y : Operand} {d : Option Tmp} {ty : TypeId} {ps : String} {af : Array Edge} {gd : Option (Nat × Bool)} {k k' : IntKind} {ix iy : Int} [he : Enc enc c] [ht : SlT P t e c by'] [hz : ZeroT P e z] (x0 : α) (h0 : enc x0 = z.cells) (hx : ev env x = some (.int k ix)) (hy : ev env y = some (.int k' iy)) (ex : ix = (n : Int)) (ey : iy = (n : Int)) (hb : by' * n ≤ 281474976710656) (h63 : n ≤ 140737488355328) :
  ∀ a, Rep N env a → Makes P ⟨d, .makeSlice t x y, ty, ps, af, gd⟩ a.eval (bsM enc c n (List.replicate n x0)) := fun a ha w0 w L hw => by
 subst ex ey
 obtain ⟨w', h1, h2⟩ := run_makeS ht hz (k := k) (k' := k') (n := n) x0 h0 (Nat.le_refl _) hb h63 w
 exact ⟨w.heap.size, w', by simp only [execOp, ha.ev hx, ha.ev hy, Sem.run_bind, h1, Result.andThen, Sem.run_pure], hw.call h2⟩
def fnenc (f : FuncId) : Array Value := #[.func (.func f) #[] #[]]
instance : Enc fnenc 1 := ⟨fun _ => rfl, fun _ => by simp [fnenc, Value.oneCell']⟩
instance (f : FuncId) : CellAt (fnenc f) 0 (.func (.func f) #[] #[]) := ⟨rfl⟩
class Rul (P : Program) (w0 : World) (L : List Ent) (f : FuncId) (caps : Array Value) {α : outParam Type} (enc : outParam (α → Array Value)) (R : outParam (α → Bool)) : Prop where
 fn : IsFn P f
 h : ∀ w, Mem w0 L w → ∀ x, Calls P f ((Value.agg (enc x) :: caps.toList).toArray) w fun e w' => e = .returned (.bool (R x)) ∧ Mem w [] w'
theorem Rul.at {P : Program} {w0 : World} {L : List Ent} {f : FuncId} {caps : Array Value} {α : Type} {enc : α → Array Value} {R : α → Bool} (q : Rul P w0 L f caps enc R) {w : World} (hw : Mem w0 L w) : Rul P w [] f caps enc R :=
 ⟨q.fn, fun w1 h1 x => q.h w1 (by simpa using hw.call h1) x⟩
end Go.Eng

/- How blocks are worn, walked. -/
namespace Go.Proofs.YtaipiecplldinaaGreat
open Go.Eng Go.Kb
open Go.RowKit
instance : ZeroT Tryz.prog 234 (.agg (wbcells zWbk)) := ⟨by kernel_rfl⟩
theorem wb_build (x : Wea) (p : Int) (w : World) : (Instr.build 234 #[(0, .agg (weacells x)), (1, .int .i64 p)]).run Tryz.prog w = .ok (.agg (wbcells ⟨x, p⟩)) w := by
 obtain ⟨a, b, c, d⟩ := x
 unfold wbcells weacells
 kernel_rfl
theorem isnanI_c (w : World) (a : Int)  : Calls Tryz.prog 198 #[.int .i64 a] w fun e w' => e = .returned (.bool false) ∧ Mem w [] w' := by
 refine calls_of (args := [_]) Tryz.func198 rfl Tryz.ntmps198 rfl ?_
 change Cw _ _ _ _ _ [(0, .int .i64 a)] []
 refine cw_seq ?_
 refine cw_region ?_
 refine sq_r (ry_assign rfl) ?_
 refine sq_nil ?_
 refine ex_then ?_
 refine cw_seq ?_
 refine cw_region ?_
 refine sq_r (ry_move rfl) ?_
 refine sq_r (ry_move rfl) ?_
 refine sq_r (ry_int rfl rfl rfl) ?_
 refine sq_r (ry_assign rfl) ?_
 refine sq_nil ?_
 refine ex_then ?_
 refine cw_ret ?_
 refine ex_ret (.inl rfl) (res_1 rfl (rv_tmp rfl)) (fun w1 hw => ?_)
 exact ⟨congrArg (fun b => Ending.returned (Value.bool b)) ((by simp)), Keep.mem hw⟩
instance isnanI_i {w0 : World} {L : List Ent} {a : Int}  : FnQ Tryz.prog 198 w0 L [.int .i64 a] (.bool false) (True) := ⟨fun hp w hw => isnanI_c w a ⟩
theorem cmpIc_c (w : World) (a : Int) (b : Int)  : Calls Tryz.prog 197 #[.int .i64 a, .int .i64 b] w fun e w' => e = .returned (.int .i64 (cmpI a b)) ∧ Mem w [] w' := by
 refine calls_of (args := [_, _]) Tryz.func197 rfl Tryz.ntmps197 rfl ?_
 change Cw _ _ _ _ _ [(0, .int .i64 a), (1, .int .i64 b)] []
 refine cw_seq ?_
 refine cw_region ?_
 refine sq_r (ry_assign rfl) ?_
 refine sq_nil ?_
 refine ex_then ?_
 refine cw_seq ?_
 refine cw_region ?_
 refine sq_r (ry_move rfl) ?_
 refine sq_y (yl_callC rfl trivial) ?_
 refine sq_r (ry_assign rfl) ?_
 refine sq_nil ?_
 refine ex_then ?_
 refine cw_seq ?_
 refine cw_region ?_
 refine sq_r (ry_move rfl) ?_
 refine sq_y (yl_callC rfl trivial) ?_
 refine sq_r (ry_assign rfl) ?_
 refine sq_nil ?_
 refine ex_then ?_
 refine cw_seq ?_
 refine cw_seq ?_
 refine cw_region ?_
 refine sq_r (ry_move rfl) ?_
 refine sq_nil ?_
 refine ex_then ?_
 refine cw_cond rfl (fun h0 => ?_) (fun h0 => ?_)
 ·
  exfalso; simp at h0
 ·
  try simp only [Z0, Z1, Z2, Z3, Z4, Z5, Z6, Z7, Z8, Z9] at h0
  refine cw_skip ?_
  refine ex_then ?_
  refine cw_seq ?_
  refine cw_seq ?_
  refine cw_region ?_
  refine sq_r (ry_move rfl) ?_
  refine sq_nil ?_
  refine ex_then ?_
  refine cw_cond rfl (fun h2 => ?_) (fun h2 => ?_)
  ·
   exfalso; simp at h2
  ·
   try simp only [Z0, Z1, Z2, Z3, Z4, Z5, Z6, Z7, Z8, Z9] at h2
   refine cw_skip ?_
   refine ex_then ?_
   refine cw_seq ?_
   refine cw_seq ?_
   refine cw_region ?_
   refine sq_r (ry_move rfl) ?_
   refine sq_r (ry_move rfl) ?_
   refine sq_r (ry_int rfl rfl rfl) ?_
   refine sq_nil ?_
   refine ex_then ?_
   refine cw_cond rfl (fun h3 => ?_) (fun h3 => ?_)
   ·
    try simp only [Z0, Z1, Z2, Z3, Z4, Z5, Z6, Z7, Z8, Z9] at h3
    refine cw_seq ?_
    refine cw_region ?_
    refine sq_r (ry_assign rfl) ?_
    refine sq_nil ?_
    refine ex_then ?_
    refine cw_ret ?_
    refine ex_pass_ret ?_
    refine ex_ret (.inl rfl) (res_1 rfl (rv_tmp rfl)) (fun w1 hw => ?_)
    exact ⟨congrArg (fun b => Ending.returned (Value.int .i64 b)) ((by rw [cmpI, if_pos (by omega)])), Keep.mem hw⟩
   ·
    try simp only [Z0, Z1, Z2, Z3, Z4, Z5, Z6, Z7, Z8, Z9] at h3
    refine cw_skip ?_
    refine ex_then ?_
    refine cw_seq ?_
    refine cw_seq ?_
    refine cw_region ?_
    refine sq_r (ry_move rfl) ?_
    refine sq_r (ry_move rfl) ?_
    refine sq_r (ry_int rfl rfl rfl) ?_
    refine sq_nil ?_
    refine ex_then ?_
    refine cw_cond rfl (fun h4 => ?_) (fun h4 => ?_)
    ·
     try simp only [Z0, Z1, Z2, Z3, Z4, Z5, Z6, Z7, Z8, Z9] at h4
     refine cw_seq ?_
     refine cw_region ?_
     refine sq_r (ry_assign rfl) ?_
     refine sq_nil ?_
     refine ex_then ?_
     refine cw_ret ?_
     refine ex_pass_ret ?_
     refine ex_ret (.inl rfl) (res_1 rfl (rv_tmp rfl)) (fun w1 hw => ?_)
     exact ⟨congrArg (fun b => Ending.returned (Value.int .i64 b)) ((by rw [cmpI, if_neg (by omega), if_pos (by omega)])), Keep.mem hw⟩
    ·
     try simp only [Z0, Z1, Z2, Z3, Z4, Z5, Z6, Z7, Z8, Z9] at h4
     refine cw_skip ?_
     refine ex_then ?_
     refine cw_seq ?_
     refine cw_region ?_
     refine sq_r (ry_assign rfl) ?_
     refine sq_nil ?_
     refine ex_then ?_
     refine cw_ret ?_
     refine ex_ret (.inl rfl) (res_1 rfl (rv_tmp rfl)) (fun w1 hw => ?_)
     exact ⟨congrArg (fun b => Ending.returned (Value.int .i64 b)) ((by rw [cmpI, if_neg (by omega), if_neg (by omega)])), Keep.mem hw⟩
instance cmpIc_i {w0 : World} {L : List Ent} {a : Int} {b : Int}  : FnQ Tryz.prog 197 w0 L [.int .i64 a, .int .i64 b] (.int .i64 (cmpI a b)) (True) := ⟨fun hp w hw => cmpIc_c w a b ⟩
theorem wfree_c (w : World) (b : Wbk)  : Calls Tryz.prog 187 #[.agg (wbcells b)] w fun e w' => e = .returned (.bool (wfreeF b.pages b.w)) ∧ Mem w [] w' := by
 refine calls_of (args := [_]) Tryz.func187 rfl Tryz.ntmps187 rfl ?_
 change Cw _ _ _ _ _ [(0, .agg (wbcells b))] []
 refine cw_seq ?_
 refine cw_region ?_
 refine sq_boxA rfl fun b1 => ?_
 refine sq_r (ry_assign rfl) ?_
 refine sq_nil ?_
 refine ex_then ?_
 refine cw_seq ?_
 refine cw_region ?_
 refine sq_r (ry_field (o' := 0) rfl rfl) ?_
 refine sq_r (ry_field (o' := 3) rfl rfl) ?_
 refine sq_r (ry_cellc rfl) ?_
 refine sq_r (ry_not rfl) ?_
 refine sq_r (ry_move rfl) ?_
 refine sq_gt rfl rfl rfl (fun hg => (Ry.yl (ry_field (o' := 0) rfl rfl))) ?_
 refine sq_gt rfl rfl rfl (fun hg => (Ry.yl (ry_field (o' := 1) (ev_c hg rfl) rfl))) ?_
 refine sq_gt rfl rfl rfl (fun hg => (Ry.yl (ry_cellc (ev_c hg rfl)))) ?_
 refine sq_gt rfl rfl rfl (fun hg => (Ry.yl (ry_field (o' := 4) rfl rfl))) ?_
 refine sq_gt rfl rfl rfl (fun hg => (Ry.yl (ry_cellc (ev_c hg rfl)))) ?_
 refine sq_gt rfl rfl rfl (fun hg => (Ry.yl (ry_int (ev_c hg rfl) (ev_c hg rfl) rfl))) ?_
 refine sq_r (ry_and rfl rfl rfl) ?_
 refine sq_r (ry_assign rfl) ?_
 refine sq_nil ?_
 refine ex_then ?_
 refine cw_ret ?_
 refine ex_ret (.inl rfl) (res_1 rfl (rv_tmp rfl)) (fun w1 hw => ?_)
 exact ⟨congrArg (fun b => Ending.returned (Value.bool b)) (by simp only [wfreeF, Bool.and_assoc]), Keep.mem hw⟩
instance wfree_i {w0 : World} {L : List Ent} {b : Wbk}  : FnQ Tryz.prog 187 w0 L [.agg (wbcells b)] (.bool (wfreeF b.pages b.w)) (True) := ⟨fun hp w hw => wfree_c w b ⟩
theorem wdead_c (w : World) (b : Wbk)  : Calls Tryz.prog 185 #[.agg (wbcells b)] w fun e w' => e = .returned (.bool (wdeadF b.w)) ∧ Mem w [] w' := by
 refine calls_of (args := [_]) Tryz.func185 rfl Tryz.ntmps185 rfl ?_
 change Cw _ _ _ _ _ [(0, .agg (wbcells b))] []
 refine cw_seq ?_
 refine cw_region ?_
 refine sq_boxA rfl fun b1 => ?_
 refine sq_r (ry_assign rfl) ?_
 refine sq_nil ?_
 refine ex_then ?_
 refine cw_seq ?_
 refine cw_region ?_
 refine sq_r (ry_field (o' := 0) rfl rfl) ?_
 refine sq_r (ry_field (o' := 3) rfl rfl) ?_
 refine sq_r (ry_cellc rfl) ?_
 refine sq_r (ry_not rfl) ?_
 refine sq_r (ry_move rfl) ?_
 refine sq_gt rfl rfl rfl (fun hg => (Ry.yl (ry_field (o' := 0) rfl rfl))) ?_
 refine sq_gt rfl rfl rfl (fun hg => (Ry.yl (ry_field (o' := 0) (ev_c hg rfl) rfl))) ?_
 refine sq_gt rfl rfl rfl (fun hg => (Ry.yl (ry_cellc (ev_c hg rfl)))) ?_
 refine sq_gt rfl rfl rfl (fun hg => (Ry.yl (ry_int (ev_c hg rfl) rfl rfl))) ?_
 refine sq_r (ry_and rfl rfl rfl) ?_
 refine sq_r (ry_move rfl) ?_
 refine sq_gt rfl rfl rfl (fun hg => (Ry.yl (ry_field (o' := 0) rfl rfl))) ?_
 refine sq_gt rfl rfl rfl (fun hg => (Ry.yl (ry_field (o' := 1) (ev_c hg rfl) rfl))) ?_
 refine sq_gt rfl rfl rfl (fun hg => (Ry.yl (ry_cellc (ev_c hg rfl)))) ?_
 refine sq_gt rfl rfl rfl (fun hg => (Ry.yl (ry_int (ev_c hg rfl) rfl rfl))) ?_
 refine sq_r (ry_and rfl rfl rfl) ?_
 refine sq_r (ry_assign rfl) ?_
 refine sq_nil ?_
 refine ex_then ?_
 refine cw_ret ?_
 refine ex_ret (.inl rfl) (res_1 rfl (rv_tmp rfl)) (fun w1 hw => ?_)
 exact ⟨congrArg (fun b => Ending.returned (Value.bool b)) (by simp only [wdeadF, Bool.and_assoc]), Keep.mem hw⟩
instance wdead_i {w0 : World} {L : List Ent} {b : Wbk}  : FnQ Tryz.prog 185 w0 L [.agg (wbcells b)] (.bool (wdeadF b.w)) (True) := ⟨fun hp w hw => wdead_c w b ⟩
theorem wmixed_c (w : World) (b : Wbk)  : Calls Tryz.prog 189 #[.agg (wbcells b)] w fun e w' => e = .returned (.bool (wmixedF b.pages b.w)) ∧ Mem w [] w' := by
 refine calls_of (args := [_]) Tryz.func189 rfl Tryz.ntmps189 rfl ?_
 change Cw _ _ _ _ _ [(0, .agg (wbcells b))] []
 refine cw_seq ?_
 refine cw_region ?_
 refine sq_boxA rfl fun b1 => ?_
 refine sq_r (ry_assign rfl) ?_
 refine sq_nil ?_
 refine ex_then ?_
 refine cw_seq ?_
 refine cw_seq ?_
 refine cw_region ?_
 refine sq_r (ry_field (o' := 0) rfl rfl) ?_
 refine sq_r (ry_field (o' := 3) rfl rfl) ?_
 refine sq_r (ry_cellc rfl) ?_
 refine sq_nil ?_
 refine ex_then ?_
 refine cw_cond rfl (fun h0 => ?_) (fun h0 => ?_)
 ·
  try simp only [Z0, Z1, Z2, Z3, Z4, Z5, Z6, Z7, Z8, Z9] at h0
  refine cw_seq ?_
  refine cw_region ?_
  refine sq_r (ry_field (o' := 0) rfl rfl) ?_
  refine sq_r (ry_field (o' := 0) rfl rfl) ?_
  refine sq_r (ry_cellc rfl) ?_
  refine sq_r (ry_int rfl rfl rfl) ?_
  refine sq_r (ry_assign rfl) ?_
  refine sq_nil ?_
  refine ex_then ?_
  refine cw_ret ?_
  refine ex_pass_ret ?_
  refine ex_ret (.inl rfl) (res_1 rfl (rv_tmp rfl)) (fun w1 hw => ?_)
  exact ⟨congrArg (fun b => Ending.returned (Value.bool b)) (by rw [wmixedF, if_pos h0]), Keep.mem hw⟩
 ·
  try simp only [Z0, Z1, Z2, Z3, Z4, Z5, Z6, Z7, Z8, Z9] at h0
  refine cw_skip ?_
  refine ex_then ?_
  refine cw_seq ?_
  refine cw_region ?_
  refine sq_r (ry_field (o' := 0) rfl rfl) ?_
  refine sq_r (ry_field (o' := 1) rfl rfl) ?_
  refine sq_r (ry_cellc rfl) ?_
  refine sq_r (ry_field (o' := 4) rfl rfl) ?_
  refine sq_r (ry_cellc rfl) ?_
  refine sq_r (ry_int rfl rfl rfl) ?_
  refine sq_r (ry_move rfl) ?_
  refine sq_gt rfl rfl rfl (fun hg => (Ry.yl (ry_field (o' := 0) rfl rfl))) ?_
  refine sq_gt rfl rfl rfl (fun hg => (Ry.yl (ry_field (o' := 0) (ev_c hg rfl) rfl))) ?_
  refine sq_gt rfl rfl rfl (fun hg => (Ry.yl (ry_cellc (ev_c hg rfl)))) ?_
  refine sq_gt rfl rfl rfl (fun hg => (Ry.yl (ry_int (ev_c hg rfl) rfl rfl))) ?_
  refine sq_r (ry_and rfl rfl rfl) ?_
  refine sq_r (ry_move rfl) ?_
  refine sq_gt rfl rfl rfl (fun hg => (Ry.yl (ry_field (o' := 0) rfl rfl))) ?_
  refine sq_gt rfl rfl rfl (fun hg => (Ry.yl (ry_field (o' := 0) (ev_c hg rfl) rfl))) ?_
  refine sq_gt rfl rfl rfl (fun hg => (Ry.yl (ry_cellc (ev_c hg rfl)))) ?_
  refine sq_gt rfl rfl rfl (fun hg => (Ry.yl (ry_field (o' := 4) rfl rfl))) ?_
  refine sq_gt rfl rfl rfl (fun hg => (Ry.yl (ry_cellc (ev_c hg rfl)))) ?_
  refine sq_gt rfl rfl rfl (fun hg => (Ry.yl (ry_int (ev_c hg rfl) (ev_c hg rfl) rfl))) ?_
  refine sq_r (ry_and rfl rfl rfl) ?_
  refine sq_r (ry_assign rfl) ?_
  refine sq_nil ?_
  refine ex_then ?_
  refine cw_ret ?_
  refine ex_ret (.inl rfl) (res_1 rfl (rv_tmp rfl)) (fun w1 hw => ?_)
  exact ⟨congrArg (fun b => Ending.returned (Value.bool b)) (by rw [wmixedF, if_neg (by rw [h0]; simp)]), Keep.mem hw⟩
theorem wfuller_c (w : World) (a : Wbk) (b : Wbk)  : Calls Tryz.prog 188 #[.agg (wbcells a), .agg (wbcells b)] w fun e w' => e = .returned (.int .i64 (fullerF a.w b.w)) ∧ Mem w [] w' := by
 refine calls_of (args := [_, _]) Tryz.func188 rfl Tryz.ntmps188 rfl ?_
 change Cw _ _ _ _ _ [(0, .agg (wbcells a)), (1, .agg (wbcells b))] []
 refine cw_seq ?_
 refine cw_region ?_
 refine sq_boxA rfl fun b2 => ?_
 refine sq_boxA rfl fun b3 => ?_
 refine sq_r (ry_assign rfl) ?_
 refine sq_nil ?_
 refine ex_then ?_
 refine cw_seq ?_
 refine cw_region ?_
 refine sq_r (ry_field (o' := 0) rfl rfl) ?_
 refine sq_r (ry_field (o' := 1) rfl rfl) ?_
 refine sq_r (ry_cellc rfl) ?_
 refine sq_r (ry_field (o' := 0) rfl rfl) ?_
 refine sq_r (ry_field (o' := 1) rfl rfl) ?_
 refine sq_r (ry_cellc rfl) ?_
 refine sq_y (yl_callC rfl trivial) ?_
 refine sq_r (ry_assign rfl) ?_
 refine sq_nil ?_
 refine ex_then ?_
 refine cw_ret ?_
 refine ex_ret (.inl rfl) (res_1 rfl (rv_tmp rfl)) (fun w1 hw => ?_)
 exact ⟨congrArg (fun b => Ending.returned (Value.int .i64 b)) (rfl), Keep.mem hw⟩
theorem wfresher_c (w : World) (a : Wbk) (b : Wbk)  : Calls Tryz.prog 186 #[.agg (wbcells a), .agg (wbcells b)] w fun e w' => e = .returned (.int .i64 (fresherF a.w b.w)) ∧ Mem w [] w' := by
 refine calls_of (args := [_, _]) Tryz.func186 rfl Tryz.ntmps186 rfl ?_
 change Cw _ _ _ _ _ [(0, .agg (wbcells a)), (1, .agg (wbcells b))] []
 refine cw_seq ?_
 refine cw_region ?_
 refine sq_boxA rfl fun b2 => ?_
 refine sq_boxA rfl fun b3 => ?_
 refine sq_r (ry_assign rfl) ?_
 refine sq_nil ?_
 refine ex_then ?_
 refine cw_seq ?_
 refine cw_region ?_
 refine sq_r (ry_field (o' := 0) rfl rfl) ?_
 refine sq_r (ry_field (o' := 2) rfl rfl) ?_
 refine sq_r (ry_cellc rfl) ?_
 refine sq_r (ry_field (o' := 0) rfl rfl) ?_
 refine sq_r (ry_field (o' := 2) rfl rfl) ?_
 refine sq_r (ry_cellc rfl) ?_
 refine sq_y (yl_callC rfl trivial) ?_
 refine sq_r (ry_assign rfl) ?_
 refine sq_nil ?_
 refine ex_then ?_
 refine cw_ret ?_
 refine ex_ret (.inl rfl) (res_1 rfl (rv_tmp rfl)) (fun w1 hw => ?_)
 exact ⟨congrArg (fun b => Ending.returned (Value.int .i64 b)) (rfl), Keep.mem hw⟩
theorem wemptier_c (w : World) (a : Wbk) (b : Wbk)  : Calls Tryz.prog 191 #[.agg (wbcells a), .agg (wbcells b)] w fun e w' => e = .returned (.int .i64 (emptierF a.w b.w)) ∧ Mem w [] w' := by
 refine calls_of (args := [_, _]) Tryz.func191 rfl Tryz.ntmps191 rfl ?_
 change Cw _ _ _ _ _ [(0, .agg (wbcells a)), (1, .agg (wbcells b))] []
 refine cw_seq ?_
 refine cw_region ?_
 refine sq_boxA rfl fun b2 => ?_
 refine sq_boxA rfl fun b3 => ?_
 refine sq_r (ry_assign rfl) ?_
 refine sq_nil ?_
 refine ex_then ?_
 refine cw_seq ?_
 refine cw_region ?_
 refine sq_r (ry_field (o' := 0) rfl rfl) ?_
 refine sq_r (ry_field (o' := 0) rfl rfl) ?_
 refine sq_r (ry_cellc rfl) ?_
 refine sq_r (ry_field (o' := 0) rfl rfl) ?_
 refine sq_r (ry_field (o' := 0) rfl rfl) ?_
 refine sq_r (ry_cellc rfl) ?_
 refine sq_y (yl_callC rfl trivial) ?_
 refine sq_r (ry_assign rfl) ?_
 refine sq_nil ?_
 refine ex_then ?_
 refine cw_ret ?_
 refine ex_ret (.inl rfl) (res_1 rfl (rv_tmp rfl)) (fun w1 hw => ?_)
 exact ⟨congrArg (fun b => Ending.returned (Value.int .i64 b)) (rfl), Keep.mem hw⟩
theorem wworse_c (w : World) (a : Wbk) (b : Wbk)  : Calls Tryz.prog 190 #[.agg (wbcells a), .agg (wbcells b)] w fun e w' => e = .returned (.int .i64 (worseF a.w b.w)) ∧ Mem w [] w' := by
 refine calls_of (args := [_, _]) Tryz.func190 rfl Tryz.ntmps190 rfl ?_
 change Cw _ _ _ _ _ [(0, .agg (wbcells a)), (1, .agg (wbcells b))] []
 refine cw_seq ?_
 refine cw_region ?_
 refine sq_boxA rfl fun b2 => ?_
 refine sq_boxA rfl fun b3 => ?_
 refine sq_r (ry_assign rfl) ?_
 refine sq_nil ?_
 refine ex_then ?_
 refine cw_seq ?_
 refine cw_block ?_
 refine cw_seq ?_
 refine cw_region ?_
 refine sq_r (ry_field (o' := 0) rfl rfl) ?_
 refine sq_r (ry_field (o' := 3) rfl rfl) ?_
 refine sq_r (ry_cellc rfl) ?_
 refine sq_r (ry_field (o' := 0) rfl rfl) ?_
 refine sq_r (ry_field (o' := 3) rfl rfl) ?_
 refine sq_r (ry_cellc rfl) ?_
 refine sq_r (ry_eqb rfl rfl Tryz.underlying4) ?_
 refine sq_r (ry_assign rfl) ?_
 refine sq_nil ?_
 refine ex_then ?_
 refine cw_cond rfl (fun h0 => ?_) (fun h0 => ?_)
 ·
  try simp only [Z0, Z1, Z2, Z3, Z4, Z5, Z6, Z7, Z8, Z9] at h0
  refine cw_seq ?_
  refine cw_region ?_
  refine sq_r (ry_assign rfl) ?_
  refine sq_nil ?_
  refine ex_then ?_
  refine cw_ret ?_
  refine ex_block_ret ?_
  refine ex_pass_ret ?_
  refine ex_ret (.inl rfl) (res_1 rfl (rv_tmp rfl)) (fun w1 hw => ?_)
  exact ⟨congrArg (fun b => Ending.returned (Value.int .i64 b)) ((by rw [worseF, if_pos (by simpa using h0)])), Keep.mem hw⟩
 ·
  try simp only [Z0, Z1, Z2, Z3, Z4, Z5, Z6, Z7, Z8, Z9] at h0
  refine cw_seq ?_
  refine cw_region ?_
  refine sq_r (ry_field (o' := 0) rfl rfl) ?_
  refine sq_r (ry_field (o' := 3) rfl rfl) ?_
  refine sq_r (ry_cellc rfl) ?_
  refine sq_r (ry_assign rfl) ?_
  refine sq_nil ?_
  refine ex_then ?_
  refine cw_cond rfl (fun h1 => ?_) (fun h1 => ?_)
  ·
   try simp only [Z0, Z1, Z2, Z3, Z4, Z5, Z6, Z7, Z8, Z9] at h1
   refine cw_seq ?_
   refine cw_region ?_
   refine sq_r (ry_assign rfl) ?_
   refine sq_nil ?_
   refine ex_then ?_
   refine cw_ret ?_
   refine ex_block_ret ?_
   refine ex_pass_ret ?_
   refine ex_ret (.inl rfl) (res_1 rfl (rv_tmp rfl)) (fun w1 hw => ?_)
   exact ⟨congrArg (fun b => Ending.returned (Value.int .i64 b)) ((by rw [worseF, if_neg (by simpa using h0), if_pos h1])), Keep.mem hw⟩
  ·
   try simp only [Z0, Z1, Z2, Z3, Z4, Z5, Z6, Z7, Z8, Z9] at h1
   refine cw_skip ?_
   refine ex_block ?_
   refine ex_then ?_
   refine cw_seq ?_
   refine cw_region ?_
   refine sq_r (ry_assign rfl) ?_
   refine sq_nil ?_
   refine ex_then ?_
   refine cw_ret ?_
   refine ex_ret (.inl rfl) (res_1 rfl (rv_tmp rfl)) (fun w1 hw => ?_)
   exact ⟨congrArg (fun b => Ending.returned (Value.int .i64 b)) ((by rw [worseF, if_neg (by simpa using h0), if_neg (by rw [h1]; simp)])), Keep.mem hw⟩
theorem wright_c (w : World) (l : Sv) (ls : List Wea) (p : Int) (hl : Lies weacells 4 (hp w) l ls) : Calls Tryz.prog 195 #[l.val, .int .i64 p] w fun e w' => e = .returned (.bool (wearsOk ls p)) ∧ Mem w [] w' := by
 have ghl : Gv w l weacells 4 ls := ⟨hl⟩
 have hct : ctop = 1099511627776 := rfl
 refine calls_of (args := [_, _]) Tryz.func195 rfl Tryz.ntmps195 rfl ?_
 change Cw _ _ _ _ _ [(0, l.val), (1, .int .i64 p)] []
 refine cw_seq ?_
 refine cw_region ?_
 refine sq_r (ry_assign rfl) ?_
 refine sq_nil ?_
 refine ex_then ?_
 refine cw_seq ?_
 refine cw_seq ?_
 refine cw_region ?_
 refine sq_r (ry_move rfl) ?_
 refine sq_r (ry_lenH rfl) ?_
 refine sq_r (ry_int rfl rfl rfl) ?_
 refine sq_r (ry_move rfl) ?_
 refine sq_gf rfl rfl rfl (fun hg => (Ry.yl (ry_move rfl))) ?_
 refine sq_gf rfl rfl rfl (fun hg => (Ry.yl (ry_lenH (ev_c hg rfl)))) ?_
 refine sq_gf rfl rfl rfl (fun hg => (Ry.yl (ry_int (ev_c hg rfl) rfl rfl))) ?_
 refine sq_r (ry_or rfl rfl rfl) ?_
 refine sq_r (ry_move rfl) ?_
 refine sq_gf rfl rfl rfl (fun hg => (Ry.yl (ry_move rfl))) ?_
 refine sq_gf rfl rfl rfl (fun hg => (Ry.yl (ry_int (ev_c hg rfl) rfl rfl))) ?_
 refine sq_r (ry_or rfl rfl rfl) ?_
 refine sq_r (ry_move rfl) ?_
 refine sq_gf rfl rfl rfl (fun hg => (Ry.yl (ry_move rfl))) ?_
 refine sq_gf rfl rfl rfl (fun hg => (Ry.yl (ry_int (ev_c hg rfl) rfl rfl))) ?_
 refine sq_r (ry_or rfl rfl rfl) ?_
 refine sq_nil ?_
 refine ex_then ?_
 refine cw_cond rfl (fun h0 => ?_) (fun h0 => ?_)
 ·
  try simp only [Z0, Z1, Z2, Z3, Z4, Z5, Z6, Z7, Z8, Z9] at h0
  have hz : wearsOk ls p = false := by
   cases hk : wearsOk ls p with
   | false => rfl
   | true => have g := wearsOk_iff.1 hk; omega
  refine cw_seq ?_
  refine cw_region ?_
  refine sq_r (ry_assign rfl) ?_
  refine sq_nil ?_
  refine ex_then ?_
  refine cw_ret ?_
  refine ex_pass_ret ?_
  refine ex_ret (.inl rfl) (res_1 rfl (rv_tmp rfl)) (fun w1 hw => ?_)
  exact ⟨congrArg (fun b => Ending.returned (Value.bool b)) (hz.symm), Keep.mem hw⟩
 ·
  try simp only [Z0, Z1, Z2, Z3, Z4, Z5, Z6, Z7, Z8, Z9] at h0
  refine cw_skip ?_
  refine ex_then ?_
  refine cw_seq ?_
  refine cw_seq ?_
  refine cw_region ?_
  refine sq_r (ry_move rfl) ?_
  refine sq_r (ry_lenH rfl) ?_
  refine sq_r (ry_move rfl) ?_
  refine sq_nil ?_
  refine ex_then ?_
  refine cw_block ?_
  refine cw_loop (X := Nat) (fun zz => [(25, .int .i64 (zz : Nat)), (1, .int .i64 p), (23, l.val), (24, .int .i64 (ls.length : Nat))]) (fun zz => []) (fun zz => zz ≤ ls.length ∧ ∀ j x, j < zz → ls[j]? = Option.some x → weaOk p x = true) (fun zz => ls.length - zz) 0 ⟨Nat.zero_le _, fun j x hj => by first | omega | (simp only []; omega)⟩ (Sub.cons rfl (Sub.cons rfl (Sub.cons rfl (Sub.cons rfl (Sub.nil _))))) (fun w hw => Keep.mem hw) ?_
  rintro i ⟨hi1, hi2⟩
  refine cw_seq ?_
  refine cw_region ?_
  refine sq_r (ry_int rfl rfl rfl) ?_
  refine sq_nil ?_
  refine ex_then ?_
  refine cw_seq ?_
  refine cw_cond rfl (fun h1 => ?_) (fun h1 => ?_)
  ·
   try simp only [Z0, Z1, Z2, Z3, Z4, Z5, Z6, Z7, Z8, Z9] at h1
   refine cw_skip ?_
   refine ex_then ?_
   refine cw_seq ?_
   refine cw_block ?_
   refine cw_seq ?_
   refine cw_region ?_
   obtain ⟨x, hx⟩ := get_some (xs := ls) (i := i) (by omega)
   refine sq_r (ry_idxH rfl rfl i rfl (by omega)) ?_
   refine sq_r (ry_elemH rfl i hx rfl) ?_
   refine sq_allocA fun b6 => ?_
   refine sq_storeW rfl rfl ?_
   refine sq_nil ?_
   refine ex_then ?_
   refine cw_seq ?_
   refine cw_region ?_
   refine sq_r (ry_field (o' := 0) rfl rfl) ?_
   refine sq_r (ry_cellc rfl) ?_
   refine sq_r (ry_int rfl rfl rfl) ?_
   refine sq_r (ry_move rfl) ?_
   refine sq_gf rfl rfl rfl (fun hg => (Ry.yl (ry_field (o' := 0) rfl rfl))) ?_
   refine sq_gf rfl rfl rfl (fun hg => (Ry.yl (ry_cellc (ev_c hg rfl)))) ?_
   refine sq_gf rfl rfl rfl (fun hg => (Ry.yl (ry_field (o' := 1) rfl rfl))) ?_
   refine sq_gf rfl rfl rfl (fun hg => (Ry.yl (ry_cellc (ev_c hg rfl)))) ?_
   refine sq_gf rfl rfl rfl (fun hg => (Ry.yl (ry_int (ev_c hg rfl) (ev_c hg rfl) rfl))) ?_
   refine sq_r (ry_or rfl rfl rfl) ?_
   refine sq_r (ry_move rfl) ?_
   refine sq_gf rfl rfl rfl (fun hg => (Ry.yl (ry_field (o' := 1) rfl rfl))) ?_
   refine sq_gf rfl rfl rfl (fun hg => (Ry.yl (ry_cellc (ev_c hg rfl)))) ?_
   refine sq_gf rfl rfl rfl (fun hg => (Ry.yl (ry_move rfl))) ?_
   refine sq_gf rfl rfl rfl (fun hg => (Ry.yl (ry_int (ev_c hg rfl) (ev_c hg rfl) rfl))) ?_
   refine sq_r (ry_or rfl rfl rfl) ?_
   refine sq_r (ry_move rfl) ?_
   refine sq_gf rfl rfl rfl (fun hg => (Ry.yl (ry_field (o' := 2) rfl rfl))) ?_
   refine sq_gf rfl rfl rfl (fun hg => (Ry.yl (ry_cellc (ev_c hg rfl)))) ?_
   refine sq_gf rfl rfl rfl (fun hg => (Ry.yl (ry_int (ev_c hg rfl) rfl rfl))) ?_
   refine sq_r (ry_or rfl rfl rfl) ?_
   refine sq_r (ry_move rfl) ?_
   refine sq_gf rfl rfl rfl (fun hg => (Ry.yl (ry_field (o' := 2) rfl rfl))) ?_
   refine sq_gf rfl rfl rfl (fun hg => (Ry.yl (ry_cellc (ev_c hg rfl)))) ?_
   refine sq_gf rfl rfl rfl (fun hg => (Ry.yl (ry_int (ev_c hg rfl) rfl rfl))) ?_
   refine sq_r (ry_or rfl rfl rfl) ?_
   refine sq_nil ?_
   refine ex_then ?_
   refine cw_cond rfl (fun h2 => ?_) (fun h2 => ?_)
   ·
    try simp only [Z0, Z1, Z2, Z3, Z4, Z5, Z6, Z7, Z8, Z9] at h2
    have hz : wearsOk ls p = false := by
     cases hk : wearsOk ls p with
     | false => rfl
     | true =>
      have g := weaOk_iff.1 ((wearsOk_iff.1 hk).2.2.2.2 x (List.mem_of_getElem? hx))
      omega
    refine cw_seq ?_
    refine cw_region ?_
    refine sq_r (ry_assign rfl) ?_
    refine sq_nil ?_
    refine ex_then ?_
    refine cw_ret ?_
    refine ex_block_ret ?_
    refine ex_pass_ret ?_
    refine ex_pass_ret ?_
    refine ex_block_ret ?_
    refine ex_pass_ret ?_
    refine ex_ret (.inl rfl) (res_1 rfl (rv_tmp rfl)) (fun w1 hw => ?_)
    exact ⟨congrArg (fun b => Ending.returned (Value.bool b)) (hz.symm), Keep.mem hw⟩
   ·
    try simp only [Z0, Z1, Z2, Z3, Z4, Z5, Z6, Z7, Z8, Z9] at h2
    have hxo : weaOk p x = true := weaOk_iff.2 ⟨by omega, by omega, by omega, by omega, by omega⟩
    refine cw_skip ?_
    refine ex_block ?_
    refine ex_then ?_
    refine cw_region ?_
    refine sq_r (ry_add rfl rfl (by omega)) ?_
    refine sq_r (ry_move rfl) ?_
    refine sq_nil ?_
    exact ex_again (x := (i)) (i + 1) ⟨by first | omega | (simp only []; omega), fun j y hj hy => if e : j = i then (by subst e; rw [hx] at hy; cases hy; exact hxo) else hi2 j y (by first | omega | (simp only []; omega)) hy⟩ (by first | omega | (simp only []; omega)) (Sub.cons rfl (Sub.cons rfl (Sub.cons rfl (Sub.cons rfl (Sub.nil _))))) (fun w hw => Keep.mem hw)
  ·
   try simp only [Z0, Z1, Z2, Z3, Z4, Z5, Z6, Z7, Z8, Z9] at h1
   obtain rfl : i = ls.length := by omega
   have hz : wearsOk ls p = true := wearsOk_iff.2 ⟨by omega, by omega, by omega, by omega, fun x hx => by
    obtain ⟨j, hj⟩ := List.getElem?_of_mem hx
    exact hi2 j x (List.getElem?_eq_some_iff.1 hj).1 hj⟩
   refine cw_exit ?_
   refine ex_pass_exit ?_
   refine ex_pass_exit ?_
   refine ex_block_hit ?_
   refine ex_then ?_
   refine cw_seq ?_
   refine cw_region ?_
   refine sq_r (ry_assign rfl) ?_
   refine sq_nil ?_
   refine ex_then ?_
   refine cw_ret ?_
   refine ex_ret (.inl rfl) (res_1 rfl (rv_tmp rfl)) (fun w1 hw => ?_)
   exact ⟨congrArg (fun b => Ending.returned (Value.bool b)) (hz.symm), Keep.mem hw⟩
instance wright_i {w0 : World} {L : List Ent} {l : Sv} {ls : List Wea} {p : Int} [hl : HdE w0 L weacells 4 l ls] : FnQ Tryz.prog 195 w0 L [l.val, .int .i64 p] (.bool (wearsOk ls p)) (True) := ⟨fun hp w hw => wright_c w l ls p (hl.h w hw)⟩
def ordOf (f : FuncId) : Wea → Wea → Int := if f = 188 then fullerF else if f = 186 then fresherF else if f = 191 then emptierF else worseF
theorem ord_ok {f : FuncId} (h : f ∈ [188, 186, 191, 190]) : IsFn Tryz.prog f ∧ ∀ (w : World) (a b : Wbk), Calls Tryz.prog f #[.agg (wbcells a), .agg (wbcells b)] w fun e w' => e = .returned (.int .i64 (ordOf f a.w b.w)) ∧ Mem w [] w' := by
 simp only [List.mem_cons, List.not_mem_nil, or_false] at h
 rcases h with rfl | rfl | rfl | rfl
 ·
  exact ⟨inferInstance, fun w a b => wfuller_c w a b⟩
 ·
  exact ⟨inferInstance, fun w a b => wfresher_c w a b⟩
 ·
  exact ⟨inferInstance, fun w a b => wemptier_c w a b⟩
 ·
  exact ⟨inferInstance, fun w a b => wworse_c w a b⟩
def rulOf (f : FuncId) (p : Int) : Wea → Bool := if f = 187 then wfreeF p else if f = 185 then wdeadF else wmixedF p
theorem rul_ok {f : FuncId} (h : f ∈ [187, 185, 189]) : IsFn Tryz.prog f ∧ ∀ (w : World) (b : Wbk), Calls Tryz.prog f #[.agg (wbcells b)] w fun e w' => e = .returned (.bool (rulOf f b.pages b.w)) ∧ Mem w [] w' := by
 simp only [List.mem_cons, List.not_mem_nil, or_false] at h
 rcases h with rfl | rfl | rfl
 ·
  exact ⟨inferInstance, fun w b => wfree_c w b⟩
 ·
  exact ⟨inferInstance, fun w b => wdead_c w b⟩
 ·
  exact ⟨inferInstance, fun w b => wmixed_c w b⟩
theorem wahead_c (w : World) (a : Wbk) (b : Wbk) (o : Sv) (os : List FuncId) (ho : Lies fnenc 1 (hp w) o os) (hpre : ∀ f ∈ os, f ∈ [188, 186, 191, 190]) : Calls Tryz.prog 196 #[.agg (wbcells a), .agg (wbcells b), o.val] w fun e w' => e = .returned (.bool (aheadF a.w b.w (os.map ordOf))) ∧ Mem w [] w' := by
 have gho : Gv w o fnenc 1 os := ⟨ho⟩
 have hbd := ho.bd
 refine calls_of (args := [_, _, _]) Tryz.func196 rfl Tryz.ntmps196 rfl ?_
 change Cw _ _ _ _ _ [(0, .agg (wbcells a)), (1, .agg (wbcells b)), (2, o.val)] []
 refine cw_seq ?_
 refine cw_region ?_
 refine sq_boxA rfl fun b3 => ?_
 refine sq_boxA rfl fun b4 => ?_
 refine sq_r (ry_assign rfl) ?_
 refine sq_nil ?_
 refine ex_then ?_
 refine cw_seq ?_
 refine cw_seq ?_
 refine cw_region ?_
 refine sq_r (ry_move rfl) ?_
 refine sq_r (ry_lenH rfl) ?_
 refine sq_r (ry_move rfl) ?_
 refine sq_nil ?_
 refine ex_then ?_
 refine cw_block ?_
 refine cw_loop (X := Nat) (fun zz => [(12, .int .i64 (zz : Nat)), (3, .pointer (some ⟨b3, 0, none⟩)), (4, .pointer (some ⟨b4, 0, none⟩)), (10, o.val), (11, .int .i64 (os.length : Nat))]) (fun zz => [blk b4 (wbcells b) 234, blk b3 (wbcells a) 234]) (fun zz => zz ≤ os.length ∧ aheadF a.w b.w (os.map ordOf) = aheadF a.w b.w ((os.drop zz).map ordOf)) (fun zz => os.length - zz) 0 ⟨Nat.zero_le _, rfl⟩ (Sub.cons rfl (Sub.cons rfl (Sub.cons rfl (Sub.cons rfl (Sub.cons rfl (Sub.nil _)))))) (fun w hw => Keep.mem hw) ?_
 rintro i ⟨hi1, hi2⟩
 refine cw_seq ?_
 refine cw_region ?_
 refine sq_r (ry_int rfl rfl rfl) ?_
 refine sq_nil ?_
 refine ex_then ?_
 refine cw_seq ?_
 refine cw_cond rfl (fun h0 => ?_) (fun h0 => ?_)
 ·
  try simp only [Z0, Z1, Z2, Z3, Z4, Z5, Z6, Z7, Z8, Z9] at h0
  obtain ⟨f, hf⟩ := get_some (xs := os) (i := i) (by omega)
  obtain ⟨isf, hfc⟩ := ord_ok (hpre f (List.mem_of_getElem? hf))
  have hst : aheadF a.w b.w ((os.drop i).map ordOf) = if ordOf f a.w b.w ≠ 0 then decide (ordOf f a.w b.w < 0) else aheadF a.w b.w ((os.drop (i + 1)).map ordOf) := by
   rw [drop_at hf, List.map_cons, aheadF]
  refine cw_skip ?_
  refine ex_then ?_
  refine cw_seq ?_
  refine cw_block ?_
  refine cw_seq ?_
  refine cw_region ?_
  refine sq_r (ry_idxH rfl rfl i rfl (by omega)) ?_
  refine sq_r (ry_elemcH (j := 0) rfl i hf rfl (by decide)) ?_
  refine sq_r (ry_assign rfl) ?_
  refine sq_nil ?_
  refine ex_then ?_
  refine cw_seq ?_
  refine cw_region ?_
  refine sq_r (ry_move rfl) ?_
  refine sq_r (ry_whole rfl) ?_
  refine sq_r (ry_whole rfl) ?_
  refine sq_y (yl_fcall (f := f) (vs := [.agg (wbcells a), .agg (wbcells b)]) rfl rfl (fun w1 _ => hfc w1 a b)) ?_
  refine sq_r (ry_assign rfl) ?_
  refine sq_nil ?_
  refine ex_then ?_
  refine cw_seq ?_
  refine cw_region ?_
  refine sq_r (ry_move rfl) ?_
  refine sq_r (ry_int rfl rfl rfl) ?_
  refine sq_nil ?_
  refine ex_then ?_
  refine cw_cond rfl (fun h1 => ?_) (fun h1 => ?_)
  ·
   try simp only [Z0, Z1, Z2, Z3, Z4, Z5, Z6, Z7, Z8, Z9] at h1
   have hz : aheadF a.w b.w (os.map ordOf) = decide (ordOf f a.w b.w < 0) := by rw [hi2, hst, if_pos h1]
   refine cw_seq ?_
   refine cw_region ?_
   refine sq_r (ry_move rfl) ?_
   refine sq_r (ry_int rfl rfl rfl) ?_
   refine sq_r (ry_assign rfl) ?_
   refine sq_nil ?_
   refine ex_then ?_
   refine cw_ret ?_
   refine ex_block_ret ?_
   refine ex_pass_ret ?_
   refine ex_pass_ret ?_
   refine ex_block_ret ?_
   refine ex_pass_ret ?_
   refine ex_ret (.inl rfl) (res_1 rfl (rv_tmp rfl)) (fun w1 hw => ?_)
   exact ⟨congrArg (fun b => Ending.returned (Value.bool b)) (hz.symm), Keep.mem hw⟩
  ·
   try simp only [Z0, Z1, Z2, Z3, Z4, Z5, Z6, Z7, Z8, Z9] at h1
   rw [if_neg (by omega)] at hst
   refine cw_skip ?_
   refine ex_block ?_
   refine ex_then ?_
   refine cw_region ?_
   refine sq_r (ry_add rfl rfl (by omega)) ?_
   refine sq_r (ry_move rfl) ?_
   refine sq_nil ?_
   exact ex_again (x := (i)) (i + 1) ⟨by first | omega | (simp only []; omega), by rw [hi2, hst]⟩ (by first | omega | (simp only []; omega)) (Sub.cons rfl (Sub.cons rfl (Sub.cons rfl (Sub.cons rfl (Sub.cons rfl (Sub.nil _)))))) (fun w hw => Keep.mem hw)
 ·
  try simp only [Z0, Z1, Z2, Z3, Z4, Z5, Z6, Z7, Z8, Z9] at h0
  obtain rfl : i = os.length := by omega
  have hz : aheadF a.w b.w (os.map ordOf) = false := by rw [hi2, List.drop_length]; rfl
  refine cw_exit ?_
  refine ex_pass_exit ?_
  refine ex_pass_exit ?_
  refine ex_block_hit ?_
  refine ex_then ?_
  refine cw_seq ?_
  refine cw_region ?_
  refine sq_r (ry_assign rfl) ?_
  refine sq_nil ?_
  refine ex_then ?_
  refine cw_ret ?_
  refine ex_ret (.inl rfl) (res_1 rfl (rv_tmp rfl)) (fun w1 hw => ?_)
  exact ⟨congrArg (fun b => Ending.returned (Value.bool b)) (hz.symm), Keep.mem hw⟩
instance wahead_i {w0 : World} {L : List Ent} {a : Wbk} {b : Wbk} {o : Sv} {os : List FuncId} [ho : HdE w0 L fnenc 1 o os] : FnQ Tryz.prog 196 w0 L [.agg (wbcells a), .agg (wbcells b), o.val] (.bool (aheadF a.w b.w (os.map ordOf))) (∀ f ∈ os, f ∈ [188, 186, 191, 190]) := ⟨fun hp w hw => wahead_c w a b o os (ho.h w hw) hp⟩
theorem wfirst_c (w : World) (r : FuncId) (l : Sv) (ls : List Wea) (p : Int) (o : Sv) (os : List FuncId) (hl : Lies weacells 4 (hp w) l ls) (ho : Lies fnenc 1 (hp w) o os) (hpre : r ∈ [187, 185, 189] ∧ ∀ f ∈ os, f ∈ [188, 186, 191, 190]) : Calls Tryz.prog 184 #[l.val, .int .i64 p, .func (.func r) #[] #[], o.val] w fun e w' => e = .returned (.tuple #[.int .i64 ((firstF ls p (rulOf r p) (os.map ordOf)).1), .bool ((firstF ls p (rulOf r p) (os.map ordOf)).2)]) ∧ Mem w [] w' := by
 have ghl : Gv w l weacells 4 ls := ⟨hl⟩
 have gho : Gv w o fnenc 1 os := ⟨ho⟩
 obtain ⟨hr1, ho2⟩ := hpre
 obtain ⟨isr, hrc⟩ := rul_ok hr1
 have hbd := hl.bd
 refine calls_of (args := [_, _, _, _]) Tryz.func184 rfl Tryz.ntmps184 rfl ?_
 change Cw _ _ _ _ _ [(0, l.val), (1, .int .i64 p), (2, .func (.func r) #[] #[]), (3, o.val)] []
 refine cw_seq ?_
 refine cw_region ?_
 refine sq_r (ry_assign rfl) ?_
 refine sq_r (ry_assign rfl) ?_
 refine sq_nil ?_
 refine ex_then ?_
 refine cw_seq ?_
 refine cw_seq ?_
 refine cw_region ?_
 refine sq_r (ry_move rfl) ?_
 refine sq_r (ry_move rfl) ?_
 refine sq_y (yl_callC rfl trivial) ?_
 refine sq_r (ry_not rfl) ?_
 refine sq_nil ?_
 refine ex_then ?_
 refine cw_cond rfl (fun h0 => ?_) (fun h0 => ?_)
 ·
  try simp only [Z0, Z1, Z2, Z3, Z4, Z5, Z6, Z7, Z8, Z9] at h0
  have hE : firstF ls p (rulOf r p) (os.map ordOf) = (0, false) := if_neg (by rw [h0]; simp)
  refine cw_seq ?_
  refine cw_region ?_
  refine sq_r (ry_assign rfl) ?_
  refine sq_r (ry_assign rfl) ?_
  refine sq_nil ?_
  refine ex_then ?_
  refine cw_ret ?_
  refine ex_pass_ret ?_
  refine ex_ret (.inl rfl) (res_2 rfl (rv_tmp rfl) (rv_tmp rfl)) (fun w1 hw => ?_)
  exact ⟨by rw [hE], Keep.mem hw⟩
 ·
  try simp only [Z0, Z1, Z2, Z3, Z4, Z5, Z6, Z7, Z8, Z9] at h0
  have hE : firstF ls p (rulOf r p) (os.map ordOf) = fstTo ls (rulOf r p) (os.map ordOf) ls.length := if_pos h0
  refine cw_skip ?_
  refine ex_then ?_
  refine cw_seq ?_
  refine cw_region ?_
  refine sq_r (ry_assign rfl) ?_
  refine sq_r (ry_assign rfl) ?_
  refine sq_nil ?_
  refine ex_then ?_
  refine cw_seq ?_
  refine cw_seq ?_
  refine cw_region ?_
  refine sq_r (ry_move rfl) ?_
  refine sq_r (ry_lenH rfl) ?_
  refine sq_r (ry_move rfl) ?_
  refine sq_nil ?_
  refine ex_then ?_
  refine cw_block ?_
  refine cw_loop (X := Nat) (fun zz => [(21, .int .i64 (zz : Nat)), (10, .int .i64 ((fstTo ls (rulOf r p) (os.map ordOf) zz).1)), (11, .bool ((fstTo ls (rulOf r p) (os.map ordOf) zz).2)), (0, l.val), (1, .int .i64 p), (2, .func (.func r) #[] #[]), (3, o.val), (19, l.val), (20, .int .i64 (ls.length : Nat))]) (fun zz => []) (fun zz => zz ≤ ls.length) (fun zz => ls.length - zz) 0 (Nat.zero_le _) (Sub.cons rfl (Sub.cons rfl (Sub.cons rfl (Sub.cons rfl (Sub.cons rfl (Sub.cons rfl (Sub.cons rfl (Sub.cons rfl (Sub.cons rfl (Sub.nil _)))))))))) (fun w hw => Keep.mem hw) ?_
  rintro i hi1
  refine cw_seq ?_
  refine cw_region ?_
  refine sq_r (ry_int rfl rfl rfl) ?_
  refine sq_nil ?_
  refine ex_then ?_
  refine cw_seq ?_
  refine cw_cond rfl (fun h1 => ?_) (fun h1 => ?_)
  ·
   try simp only [Z0, Z1, Z2, Z3, Z4, Z5, Z6, Z7, Z8, Z9] at h1
   obtain ⟨x, hx⟩ := get_some (xs := ls) (i := i) (by omega)
   have hgx : ls.getD i zWea = x := by simp [List.getD, hx]
   have hle := fstTo_le ls (rulOf r p) (os.map ordOf) i
   refine cw_skip ?_
   refine ex_then ?_
   refine cw_seq ?_
   refine cw_block ?_
   refine cw_seq ?_
   refine cw_region ?_
   refine sq_r (ry_move rfl) ?_
   refine sq_r (ry_idxH rfl rfl i rfl (by omega)) ?_
   refine sq_r (ry_elemH rfl i hx rfl) ?_
   refine sq_allocA fun b13 => ?_
   refine sq_r (ry_assign rfl) ?_
   refine sq_storeW rfl rfl ?_
   refine sq_nil ?_
   refine ex_then ?_
   refine cw_seq ?_
   refine cw_region ?_
   refine sq_r (ry_whole rfl) ?_
   refine sq_r (ry_move rfl) ?_
   refine sq_r (ry_build (v := .agg (wbcells ⟨x, p⟩)) rfl (wb_build x p)) ?_
   refine sq_allocA fun b14 => ?_
   refine sq_storeW rfl rfl ?_
   refine sq_nil ?_
   refine ex_then ?_
   refine cw_seq ?_
   refine cw_seq ?_
   refine cw_region ?_
   refine sq_r (ry_move rfl) ?_
   refine sq_r (ry_whole rfl) ?_
   refine sq_y (yl_fcall (f := r) (vs := [.agg (wbcells ⟨x, p⟩)]) rfl rfl (fun w1 _ => hrc w1 ⟨x, p⟩)) ?_
   refine sq_r (ry_not rfl) ?_
   refine sq_nil ?_
   refine ex_then ?_
   refine cw_cond rfl (fun h2 => ?_) (fun h2 => ?_)
   ·
    try simp only [Z0, Z1, Z2, Z3, Z4, Z5, Z6, Z7, Z8, Z9] at h2
    have hst : (fstTo ls (rulOf r p) (os.map ordOf) (i + 1)) = (fstTo ls (rulOf r p) (os.map ordOf) i) := by rw [fstTo, fstStep, hgx, if_neg (by rw [h2]; simp)]
    refine cw_exit ?_
    refine ex_pass_exit ?_
    refine ex_block_hit ?_
    refine ex_then ?_
    refine cw_region ?_
    refine sq_r (ry_add rfl rfl (by omega)) ?_
    refine sq_r (ry_move rfl) ?_
    refine sq_nil ?_
    exact ex_again (x := (i)) (i + 1) (by first | omega | (simp only []; omega)) (by first | omega | (simp only []; omega)) (Sub.cons rfl (Sub.cons (look_eq rfl (by rw [hst])) (Sub.cons (look_eq rfl (by rw [hst])) (Sub.cons rfl (Sub.cons rfl (Sub.cons rfl (Sub.cons rfl (Sub.cons rfl (Sub.cons rfl (Sub.nil _)))))))))) (fun w hw => Keep.mem hw)
   ·
    try simp only [Z0, Z1, Z2, Z3, Z4, Z5, Z6, Z7, Z8, Z9] at h2
    refine cw_skip ?_
    refine ex_then ?_
    refine cw_seq ?_
    refine cw_quiet (by kernel_rfl) (by kernel_rfl) ?_
    refine qt_r (ry_move rfl) ?_
    refine qt_r (ry_not rfl) ?_
    refine qt_r (ry_move rfl) ?_
    refine qt_gf rfl rfl rfl (fun hg => (Ry.yl (ry_whole rfl))) ?_
    refine qt_gf rfl rfl rfl (fun hg => (Ry.yl (ry_move rfl))) ?_
    refine qt_gf rfl rfl rfl (fun hg => (Ry.yl (ry_move rfl))) ?_
    refine qt_gf rfl rfl rfl (fun hg => (Ry.yl (ry_idxH (ev_c hg rfl) (ev_c hg rfl) ((fstTo ls (rulOf r p) (os.map ordOf) i).1.toNat) (by omega) (by have := hle.1; have := hle.2.1; have := (List.getElem?_eq_some_iff.1 hx).1; omega)))) ?_
    refine qt_gf rfl rfl rfl (fun hg => (Ry.yl (ry_elemH (ev_c hg rfl) ((fstTo ls (rulOf r p) (os.map ordOf) i).1.toNat) (get_getD (d := zWea) (by have := hle.1; have := hle.2.1; have := (List.getElem?_eq_some_iff.1 hx).1; omega)) rfl))) ?_
    refine qt_gf rfl rfl rfl (fun hg => (Ry.yl (ry_move rfl))) ?_
    refine qt_gf rfl rfl rfl (fun hg => (Ry.yl (ry_build (v := .agg (wbcells ⟨(ls.getD (fstTo ls (rulOf r p) (os.map ordOf) i).1.toNat zWea), p⟩)) (evp_cons (ev_c hg rfl) (evp_cons (ev_c hg rfl) evp_nil)) (wb_build (ls.getD (fstTo ls (rulOf r p) (os.map ordOf) i).1.toNat zWea) p)))) ?_
    refine qt_gf rfl rfl rfl (fun hg => (Ry.yl (ry_move rfl))) ?_
    refine qt_gf rfl rfl rfl (fun hg => yl_callC (evl_cons (ev_c hg rfl) (evl_cons (ev_c hg rfl) (evl_cons (ev_c hg rfl) evl_nil))) ho2) ?_
    refine qt_r (ry_or rfl rfl rfl) ?_
    refine qt_nil ?_
    refine ex_then ?_
    refine cw_cond rfl (fun h3 => ?_) (fun h3 => ?_)
    ·
     try simp only [Z0, Z1, Z2, Z3, Z4, Z5, Z6, Z7, Z8, Z9] at h3
     have hst : (fstTo ls (rulOf r p) (os.map ordOf) (i + 1)) = ((i : Int), true) := by
      rw [fstTo, fstStep, hgx, if_pos ⟨h2, h3⟩]
     refine cw_region ?_
     refine sq_r (ry_move rfl) ?_
     refine sq_r (ry_assign rfl) ?_
     refine sq_r (ry_assign rfl) ?_
     refine sq_nil ?_
     refine ex_block ?_
     refine ex_then ?_
     refine cw_region ?_
     refine sq_r (ry_add rfl rfl (by omega)) ?_
     refine sq_r (ry_move rfl) ?_
     refine sq_nil ?_
     exact ex_again (x := (i)) (i + 1) (by first | omega | (simp only []; omega)) (by first | omega | (simp only []; omega)) (Sub.cons rfl (Sub.cons (look_eq rfl (by rw [hst])) (Sub.cons (look_eq rfl (by rw [hst])) (Sub.cons rfl (Sub.cons rfl (Sub.cons rfl (Sub.cons rfl (Sub.cons rfl (Sub.cons rfl (Sub.nil _)))))))))) (fun w hw => Keep.mem hw)
    ·
     try simp only [Z0, Z1, Z2, Z3, Z4, Z5, Z6, Z7, Z8, Z9] at h3
     have hst : (fstTo ls (rulOf r p) (os.map ordOf) (i + 1)) = (fstTo ls (rulOf r p) (os.map ordOf) i) := by
      rw [fstTo, fstStep, hgx, if_neg]
      rintro ⟨_, g⟩
      rcases g with g | g
      ·
       exact absurd (h3.1.symm.trans g) (by simp)
      ·
       exact absurd (h3.2.symm.trans g) (by simp)
     refine cw_skip ?_
     refine ex_block ?_
     refine ex_then ?_
     refine cw_region ?_
     refine sq_r (ry_add rfl rfl (by omega)) ?_
     refine sq_r (ry_move rfl) ?_
     refine sq_nil ?_
     exact ex_again (x := (i)) (i + 1) (by first | omega | (simp only []; omega)) (by first | omega | (simp only []; omega)) (Sub.cons rfl (Sub.cons (look_eq rfl (by rw [hst])) (Sub.cons (look_eq rfl (by rw [hst])) (Sub.cons rfl (Sub.cons rfl (Sub.cons rfl (Sub.cons rfl (Sub.cons rfl (Sub.cons rfl (Sub.nil _)))))))))) (fun w hw => Keep.mem hw)
  ·
   try simp only [Z0, Z1, Z2, Z3, Z4, Z5, Z6, Z7, Z8, Z9] at h1
   obtain rfl : i = ls.length := by omega
   refine cw_exit ?_
   refine ex_pass_exit ?_
   refine ex_pass_exit ?_
   refine ex_block_hit ?_
   refine ex_then ?_
   refine cw_seq ?_
   refine cw_region ?_
   refine sq_r (ry_move rfl) ?_
   refine sq_r (ry_move rfl) ?_
   refine sq_r (ry_assign rfl) ?_
   refine sq_r (ry_assign rfl) ?_
   refine sq_nil ?_
   refine ex_then ?_
   refine cw_ret ?_
   refine ex_ret (.inl rfl) (res_2 rfl (rv_tmp rfl) (rv_tmp rfl)) (fun w1 hw => ?_)
   exact ⟨by rw [hE], Keep.mem hw⟩
instance wfirst_i {w0 : World} {L : List Ent} {r : FuncId} {l : Sv} {ls : List Wea} {p : Int} {o : Sv} {os : List FuncId} [hl : HdE w0 L weacells 4 l ls] [ho : HdE w0 L fnenc 1 o os] : FnQ Tryz.prog 184 w0 L [l.val, .int .i64 p, .func (.func r) #[] #[], o.val] (.tuple #[.int .i64 ((firstF ls p (rulOf r p) (os.map ordOf)).1), .bool ((firstF ls p (rulOf r p) (os.map ordOf)).2)]) (r ∈ [187, 185, 189] ∧ ∀ f ∈ os, f ∈ [188, 186, 191, 190]) := ⟨fun hp w hw => wfirst_c w r l ls p o os (hl.h w hw) (ho.h w hw) hp⟩
theorem wFront_c (w : World) (l : Sv) (ls : List Wea) (p : Int) (hl : Lies weacells 4 (hp w) l ls) : Calls Tryz.prog 174 #[l.val, .int .i64 p] w fun e w' => e = .returned (.tuple #[.int .i64 ((frontW ls p).1), .bool ((frontW ls p).2)]) ∧ Mem w [] w' := by
 have ghl : Gv w l weacells 4 ls := ⟨hl⟩
 refine calls_of (args := [_, _]) Tryz.func174 rfl Tryz.ntmps174 rfl ?_
 change Cw _ _ _ _ _ [(0, l.val), (1, .int .i64 p)] []
 refine cw_seq ?_
 refine cw_region ?_
 refine sq_r (ry_assign rfl) ?_
 refine sq_r (ry_assign rfl) ?_
 refine sq_nil ?_
 refine ex_then ?_
 refine cw_seq ?_
 refine cw_region ?_
 refine sq_r (ry_move rfl) ?_
 refine sq_r (ry_move rfl) ?_
 refine sq_buildSlice (enc := fnenc) (vals := [.func (.func 188) #[] #[], .func (.func 186) #[] #[]]) [188, 186] rfl rfl rfl (by decide) (by decide) fun b8 => ?_
 refine sq_y (yl_callC rfl (by decide)) ?_
 refine sq_r (ry_extract rfl rfl) ?_
 refine sq_r (ry_extract rfl rfl) ?_
 refine sq_r (ry_assign rfl) ?_
 refine sq_r (ry_assign rfl) ?_
 refine sq_nil ?_
 refine ex_then ?_
 refine cw_ret ?_
 refine ex_ret (.inl rfl) (res_2 rfl (rv_tmp rfl) (rv_tmp rfl)) (fun w1 hw => ?_)
 exact ⟨rfl, Keep.mem hw⟩
instance wFront_i {w0 : World} {L : List Ent} {l : Sv} {ls : List Wea} {p : Int} [hl : HdE w0 L weacells 4 l ls] : FnQ Tryz.prog 174 w0 L [l.val, .int .i64 p] (.tuple #[.int .i64 ((frontW ls p).1), .bool ((frontW ls p).2)]) (True) := ⟨fun hp w hw => wFront_c w l ls p (hl.h w hw)⟩
theorem wDead_c (w : World) (l : Sv) (ls : List Wea) (p : Int) (hl : Lies weacells 4 (hp w) l ls) : Calls Tryz.prog 171 #[l.val, .int .i64 p] w fun e w' => e = .returned (.tuple #[.int .i64 ((deadW ls p).1), .bool ((deadW ls p).2)]) ∧ Mem w [] w' := by
 have ghl : Gv w l weacells 4 ls := ⟨hl⟩
 refine calls_of (args := [_, _]) Tryz.func171 rfl Tryz.ntmps171 rfl ?_
 change Cw _ _ _ _ _ [(0, l.val), (1, .int .i64 p)] []
 refine cw_seq ?_
 refine cw_region ?_
 refine sq_r (ry_assign rfl) ?_
 refine sq_r (ry_assign rfl) ?_
 refine sq_nil ?_
 refine ex_then ?_
 refine cw_seq ?_
 refine cw_region ?_
 refine sq_r (ry_move rfl) ?_
 refine sq_r (ry_move rfl) ?_
 refine sq_buildSlice (enc := fnenc) (vals := [.func (.func 186) #[] #[]]) [186] rfl rfl rfl (by decide) (by decide) fun b8 => ?_
 refine sq_y (yl_callC rfl (by decide)) ?_
 refine sq_r (ry_extract rfl rfl) ?_
 refine sq_r (ry_extract rfl rfl) ?_
 refine sq_r (ry_assign rfl) ?_
 refine sq_r (ry_assign rfl) ?_
 refine sq_nil ?_
 refine ex_then ?_
 refine cw_ret ?_
 refine ex_ret (.inl rfl) (res_2 rfl (rv_tmp rfl) (rv_tmp rfl)) (fun w1 hw => ?_)
 exact ⟨rfl, Keep.mem hw⟩
instance wDead_i {w0 : World} {L : List Ent} {l : Sv} {ls : List Wea} {p : Int} [hl : HdE w0 L weacells 4 l ls] : FnQ Tryz.prog 171 w0 L [l.val, .int .i64 p] (.tuple #[.int .i64 ((deadW ls p).1), .bool ((deadW ls p).2)]) (True) := ⟨fun hp w hw => wDead_c w l ls p (hl.h w hw)⟩
theorem wVictim_c (w : World) (l : Sv) (ls : List Wea) (p : Int) (hl : Lies weacells 4 (hp w) l ls) : Calls Tryz.prog 179 #[l.val, .int .i64 p] w fun e w' => e = .returned (.tuple #[.int .i64 ((victimW ls p).1), .bool ((victimW ls p).2)]) ∧ Mem w [] w' := by
 have ghl : Gv w l weacells 4 ls := ⟨hl⟩
 refine calls_of (args := [_, _]) Tryz.func179 rfl Tryz.ntmps179 rfl ?_
 change Cw _ _ _ _ _ [(0, l.val), (1, .int .i64 p)] []
 refine cw_seq ?_
 refine cw_region ?_
 refine sq_r (ry_assign rfl) ?_
 refine sq_r (ry_assign rfl) ?_
 refine sq_nil ?_
 refine ex_then ?_
 refine cw_seq ?_
 refine cw_region ?_
 refine sq_r (ry_move rfl) ?_
 refine sq_r (ry_move rfl) ?_
 refine sq_buildSlice (enc := fnenc) (vals := [.func (.func 190) #[] #[], .func (.func 191) #[] #[], .func (.func 186) #[] #[]]) [190, 191, 186] rfl rfl rfl (by decide) (by decide) fun b8 => ?_
 refine sq_y (yl_callC rfl (by decide)) ?_
 refine sq_r (ry_extract rfl rfl) ?_
 refine sq_r (ry_extract rfl rfl) ?_
 refine sq_r (ry_assign rfl) ?_
 refine sq_r (ry_assign rfl) ?_
 refine sq_nil ?_
 refine ex_then ?_
 refine cw_ret ?_
 refine ex_ret (.inl rfl) (res_2 rfl (rv_tmp rfl) (rv_tmp rfl)) (fun w1 hw => ?_)
 exact ⟨rfl, Keep.mem hw⟩
instance wVictim_i {w0 : World} {L : List Ent} {l : Sv} {ls : List Wea} {p : Int} [hl : HdE w0 L weacells 4 l ls] : FnQ Tryz.prog 179 w0 L [l.val, .int .i64 p] (.tuple #[.int .i64 ((victimW ls p).1), .bool ((victimW ls p).2)]) (True) := ⟨fun hp w hw => wVictim_c w l ls p (hl.h w hw)⟩
theorem wroom_c (w : World) (l : Sv) (ls : List Wea) (p : Int) (hl : Lies weacells 4 (hp w) l ls) : Calls Tryz.prog 182 #[l.val, .int .i64 p] w fun e w' => e = .returned (.int .i64 (wroomF ls p)) ∧ Mem w [] w' := by
 have ghl : Gv w l weacells 4 ls := ⟨hl⟩
 refine calls_of (args := [_, _]) Tryz.func182 rfl Tryz.ntmps182 rfl ?_
 change Cw _ _ _ _ _ [(0, l.val), (1, .int .i64 p)] []
 refine cw_seq ?_
 refine cw_region ?_
 refine sq_r (ry_assign rfl) ?_
 refine sq_nil ?_
 refine ex_then ?_
 refine cw_seq ?_
 refine cw_seq ?_
 refine cw_region ?_
 refine sq_r (ry_move rfl) ?_
 refine sq_r (ry_move rfl) ?_
 refine sq_y (yl_callC rfl trivial) ?_
 refine sq_r (ry_not rfl) ?_
 refine sq_nil ?_
 refine ex_then ?_
 refine cw_cond rfl (fun h0 => ?_) (fun h0 => ?_)
 ·
  try simp only [Z0, Z1, Z2, Z3, Z4, Z5, Z6, Z7, Z8, Z9] at h0
  have hE : wroomF ls p = 0 := if_neg (by rw [h0]; simp)
  refine cw_seq ?_
  refine cw_region ?_
  refine sq_r (ry_assign rfl) ?_
  refine sq_nil ?_
  refine ex_then ?_
  refine cw_ret ?_
  refine ex_pass_ret ?_
  refine ex_ret (.inl rfl) (res_1 rfl (rv_tmp rfl)) (fun w1 hw => ?_)
  exact ⟨congrArg (fun b => Ending.returned (Value.int .i64 b)) (by rw [hE]), Keep.mem hw⟩
 ·
  try simp only [Z0, Z1, Z2, Z3, Z4, Z5, Z6, Z7, Z8, Z9] at h0
  have hE : wroomF ls p = sumI (ls.map (roomOf p)) := if_pos h0
  obtain ⟨k1, k2, k3, k4, k5⟩ := wearsOk_iff.1 h0
  refine cw_skip ?_
  refine ex_then ?_
  refine cw_seq ?_
  refine cw_region ?_
  refine sq_r (ry_assign rfl) ?_
  refine sq_nil ?_
  refine ex_then ?_
  refine cw_seq ?_
  refine cw_seq ?_
  refine cw_region ?_
  refine sq_r (ry_move rfl) ?_
  refine sq_r (ry_lenH rfl) ?_
  refine sq_r (ry_move rfl) ?_
  refine sq_nil ?_
  refine ex_then ?_
  refine cw_block ?_
  refine cw_loop (X := Nat) (fun zz => [(15, .int .i64 (zz : Nat)), (5, .int .i64 (sumI ((ls.take zz).map (roomOf p)))), (1, .int .i64 p), (13, l.val), (14, .int .i64 (ls.length : Nat))]) (fun zz => []) (fun zz => zz ≤ ls.length) (fun zz => ls.length - zz) 0 (Nat.zero_le _) (Sub.cons rfl (Sub.cons rfl (Sub.cons rfl (Sub.cons rfl (Sub.cons rfl (Sub.nil _)))))) (fun w hw => Keep.mem hw) ?_
  rintro i hi1
  refine cw_seq ?_
  refine cw_region ?_
  refine sq_r (ry_int rfl rfl rfl) ?_
  refine sq_nil ?_
  refine ex_then ?_
  refine cw_seq ?_
  refine cw_cond rfl (fun h1 => ?_) (fun h1 => ?_)
  ·
   try simp only [Z0, Z1, Z2, Z3, Z4, Z5, Z6, Z7, Z8, Z9] at h1
   obtain ⟨x, hx⟩ := get_some (xs := ls) (i := i) (by omega)
   have hxo := weaOk_iff.1 (k5 x (List.mem_of_getElem? hx))
   have hsn : (sumI ((ls.take (i + 1)).map (roomOf p))) = (sumI ((ls.take i).map (roomOf p))) + roomOf p x := by rw [List.take_add_one, hx, List.map_append, sumI_append]; simp [sumI]
   have hsb := sum_room p (ls.take i) (fun x hx => k5 x (List.mem_of_mem_take hx)) (by omega)
   have hsl : (ls.take i).length ≤ 32 := by rw [List.length_take]; omega
   have hsm : ((ls.take i).length : Int) * p ≤ 512 := room_le hsl (by omega) (by omega)
   refine cw_skip ?_
   refine ex_then ?_
   refine cw_seq ?_
   refine cw_block ?_
   refine cw_seq ?_
   refine cw_region ?_
   refine sq_r (ry_idxH rfl rfl i rfl (by omega)) ?_
   refine sq_r (ry_elemH rfl i hx rfl) ?_
   refine sq_allocA fun b7 => ?_
   refine sq_storeW rfl rfl ?_
   refine sq_nil ?_
   refine ex_then ?_
   refine cw_seq ?_
   refine cw_region ?_
   refine sq_r (ry_whole rfl) ?_
   refine sq_r (ry_move rfl) ?_
   refine sq_r (ry_build (v := .agg (wbcells ⟨x, p⟩)) rfl (wb_build x p)) ?_
   refine sq_allocA fun b8 => ?_
   refine sq_storeW rfl rfl ?_
   refine sq_nil ?_
   refine ex_then ?_
   refine cw_block ?_
   refine cw_seq ?_
   refine cw_region ?_
   refine sq_r (ry_whole rfl) ?_
   refine sq_y (yl_callC rfl trivial) ?_
   refine sq_r (ry_assign rfl) ?_
   refine sq_nil ?_
   refine ex_then ?_
   refine cw_cond rfl (fun h2 => ?_) (fun h2 => ?_)
   ·
    try simp only [Z0, Z1, Z2, Z3, Z4, Z5, Z6, Z7, Z8, Z9] at h2
    have hr : roomOf p x = p := if_pos h2
    refine cw_region ?_
    refine sq_r (ry_move rfl) ?_
    refine sq_r (ry_move rfl) ?_
    refine sq_r (ry_add rfl rfl (by omega)) ?_
    refine sq_r (ry_assign rfl) ?_
    refine sq_nil ?_
    refine ex_block ?_
    refine ex_block ?_
    refine ex_then ?_
    refine cw_region ?_
    refine sq_r (ry_add rfl rfl (by omega)) ?_
    refine sq_r (ry_move rfl) ?_
    refine sq_nil ?_
    exact ex_again (x := (i)) (i + 1) (by first | omega | (simp only []; omega)) (by first | omega | (simp only []; omega)) (Sub.cons rfl (Sub.cons (look_eq rfl (by rw [hsn, hr])) (Sub.cons rfl (Sub.cons rfl (Sub.cons rfl (Sub.nil _)))))) (fun w hw => Keep.mem hw)
   ·
    try simp only [Z0, Z1, Z2, Z3, Z4, Z5, Z6, Z7, Z8, Z9] at h2
    refine cw_seq ?_
    refine cw_region ?_
    refine sq_r (ry_whole rfl) ?_
    refine sq_y (yl_callC rfl trivial) ?_
    refine sq_r (ry_assign rfl) ?_
    refine sq_nil ?_
    refine ex_then ?_
    refine cw_cond rfl (fun h3 => ?_) (fun h3 => ?_)
    ·
     try simp only [Z0, Z1, Z2, Z3, Z4, Z5, Z6, Z7, Z8, Z9] at h3
     have hr : roomOf p x = p - x.used := by rw [roomOf, if_neg (by rw [h2]; simp), if_pos h3]
     refine cw_region ?_
     refine sq_r (ry_move rfl) ?_
     refine sq_r (ry_move rfl) ?_
     refine sq_r (ry_field (o' := 0) rfl rfl) ?_
     refine sq_r (ry_field (o' := 1) rfl rfl) ?_
     refine sq_r (Ry.to (v' := .int .i64 x.used) (ry_cellc rfl) rfl) ?_
     refine sq_r (ry_sub rfl rfl (by omega)) ?_
     refine sq_r (ry_add rfl rfl (by omega)) ?_
     refine sq_r (ry_assign rfl) ?_
     refine sq_nil ?_
     refine ex_block ?_
     refine ex_block ?_
     refine ex_then ?_
     refine cw_region ?_
     refine sq_r (ry_add rfl rfl (by omega)) ?_
     refine sq_r (ry_move rfl) ?_
     refine sq_nil ?_
     exact ex_again (x := (i)) (i + 1) (by first | omega | (simp only []; omega)) (by first | omega | (simp only []; omega)) (Sub.cons rfl (Sub.cons (look_eq rfl (by rw [hsn, hr])) (Sub.cons rfl (Sub.cons rfl (Sub.cons rfl (Sub.nil _)))))) (fun w hw => Keep.mem hw)
    ·
     try simp only [Z0, Z1, Z2, Z3, Z4, Z5, Z6, Z7, Z8, Z9] at h3
     have hr : roomOf p x = 0 := by rw [roomOf, if_neg (by rw [h2]; simp), if_neg (by rw [h3]; simp)]
     refine cw_skip ?_
     refine ex_block ?_
     refine ex_block ?_
     refine ex_then ?_
     refine cw_region ?_
     refine sq_r (ry_add rfl rfl (by omega)) ?_
     refine sq_r (ry_move rfl) ?_
     refine sq_nil ?_
     exact ex_again (x := (i)) (i + 1) (by first | omega | (simp only []; omega)) (by first | omega | (simp only []; omega)) (Sub.cons rfl (Sub.cons (look_eq rfl (by rw [hsn, hr, Int.add_zero])) (Sub.cons rfl (Sub.cons rfl (Sub.cons rfl (Sub.nil _)))))) (fun w hw => Keep.mem hw)
  ·
   try simp only [Z0, Z1, Z2, Z3, Z4, Z5, Z6, Z7, Z8, Z9] at h1
   obtain rfl : i = ls.length := by omega
   refine cw_exit ?_
   refine ex_pass_exit ?_
   refine ex_pass_exit ?_
   refine ex_block_hit ?_
   refine ex_then ?_
   refine cw_seq ?_
   refine cw_region ?_
   refine sq_r (ry_move rfl) ?_
   refine sq_r (ry_assign rfl) ?_
   refine sq_nil ?_
   refine ex_then ?_
   refine cw_ret ?_
   refine ex_ret (.inl rfl) (res_1 rfl (rv_tmp rfl)) (fun w1 hw => ?_)
   exact ⟨congrArg (fun b => Ending.returned (Value.int .i64 b)) (by rw [hE, List.take_length]), Keep.mem hw⟩
instance wroom_i {w0 : World} {L : List Ent} {l : Sv} {ls : List Wea} {p : Int} [hl : HdE w0 L weacells 4 l ls] : FnQ Tryz.prog 182 w0 L [l.val, .int .i64 p] (.int .i64 (wroomF ls p)) (True) := ⟨fun hp w hw => wroom_c w l ls p (hl.h w hw)⟩

end Go.Proofs.YtaipiecplldinaaGreat

/- Pages told. -/
namespace Go.Proofs.YtaipiecplldinaaGreat
open Go.Eng Go.Kb
open Go.RowKit
theorem pput_c (w : World) (x : Pge) (n : Int) (hx : Deep.good (hp w) x) : Calls Tryz.prog 148 #[.agg (pgcells x), .int .i64 n] w fun e w' => ∃ zz : Sv, e = .returned (.tuple #[zz.val, .int .i64 ((putF (pvv x) n).2)]) ∧ (True) ∧ Mem w [own benc 1 zz (putF (pvv x) n).1] w' := by
 have ghx : GvD w x := ⟨hx⟩
 refine calls_of (args := [_, _]) Tryz.func148 rfl Tryz.ntmps148 rfl ?_
 change Cw _ _ _ _ _ [(0, .agg (pgcells x)), (1, .int .i64 n)] []
 refine cw_seq ?_
 refine cw_region ?_
 refine sq_boxA rfl fun b2 => ?_
 refine sq_r (ry_assign rfl) ?_
 refine sq_r (ry_assign rfl) ?_
 refine sq_nil ?_
 refine ex_then ?_
 refine cw_seq ?_
 refine cw_seq ?_
 refine cw_region ?_
 refine sq_r (ry_whole rfl) ?_
 refine sq_r (ry_move rfl) ?_
 refine sq_y (yl_callC rfl trivial) ?_
 refine sq_r (ry_not rfl) ?_
 refine sq_nil ?_
 refine ex_then ?_
 refine cw_cond rfl (fun h0 => ?_) (fun h0 => ?_)
 ·
  try simp only [Z0, Z1, Z2, Z3, Z4, Z5, Z6, Z7, Z8, Z9] at h0
  have hE : putF (pvv x) n = ([], 1) := by rw [putF, if_neg (by rw [h0]; simp)]
  refine cw_seq ?_
  refine cw_region ?_
  refine sq_r (ry_assign rfl) ?_
  refine sq_r (ry_assign rfl) ?_
  refine sq_nil ?_
  refine ex_then ?_
  refine cw_ret ?_
  refine ex_pass_ret ?_
  refine ex_ret (.inl rfl) (res_2 rfl (rv_tmp rfl) (rv_tmp rfl)) (fun w1 hw => ?_)
  exact ⟨Sv.none, by rw [hE]; rfl, trivial, by rw [hE]; exact Mem.nilOwn benc 1 (Keep.mem hw : Mem w [] _)⟩
 ·
  try simp only [Z0, Z1, Z2, Z3, Z4, Z5, Z6, Z7, Z8, Z9] at h0
  have hE : putF (pvv x) n = ((pageB (pvv x) n.toNat) ++ be (crc (pageB (pvv x) n.toNat)) 4, 0) := by rw [putF, if_pos h0]
  obtain ⟨m1, m2, m3, m4, m5, m6⟩ := mayF_iff.1 h0
  have hft := fitsF_iff.1 m1
  have hrm : roomF n = n - 16 := by rw [roomF, if_pos m1]
  simp only [pvv] at m2 m3 m4 m5 m6
  have hz0 : (List.replicate (n.toNat - 4) (0 : UInt8)).length = n.toNat - 4 := List.length_replicate
  have hbl : x.body.xs.length + 16 ≤ n.toNat := by omega
  have hg6 := be_length x.gen.toNat 6
  have hm2 := be_length x.body.xs.length 2
  have hcl := crc_lt (pageB (pvv x) n.toNat)
  have hpl : (pageB (pvv x) n.toNat).length = n.toNat - 4 := pageB_len (by simp only [pvv]; omega)
  refine cw_skip ?_
  refine ex_then ?_
  refine cw_seq ?_
  refine cw_region ?_
  refine sq_r (ry_move rfl) ?_
  refine sq_r (ry_sub rfl rfl (by omega)) ?_
  refine sq_makeS (enc := benc) (n := (n.toNat - 4)) (cap := (n.toNat - 4)) 0 rfl rfl rfl (by omega) (by omega) (by omega) (by omega) (by omega) fun b13 => ?_
  refine sq_r (ry_assign rfl) ?_
  refine sq_nil ?_
  refine ex_then ?_
  refine cw_seq ?_
  have ok13 := sv_ok0 (b := b13) (n := (n.toNat - 4)) (by omega)
  refine cw_lin [9, 11] [[], [], [], [], [], [], [], [], [], [], [9], [9]] [0, 1, 2, 3, 4, 5, 6, 7, 8, 9, 10, 11] [blk b2 (pgcells x) 110] (fun _ hw => Keep.mem hw) (by kernel_rfl) (by kernel_rfl) ?_
  refine ln_r rfl (ry_move rfl) ?_
  refine ln_r rfl (ry_move rfl) ?_
  refine ln_r rfl (ry_field (o' := 0) rfl rfl) ?_
  refine ln_r rfl (ry_cellc rfl) ?_
  refine ln_r rfl (ry_conv rfl (wrap_b8i _)) ?_
  refine ln_r rfl (ry_field (o' := 1) rfl rfl) ?_
  refine ln_r rfl (ry_cellc rfl) ?_
  refine ln_r rfl (ry_conv rfl (wrap_b8i _)) ?_
  refine ln_r rfl (ry_idxSv (s := ⟨false, b13, 0, (n.toNat - 4), (n.toNat - 4), none⟩) (i := 0) rfl rfl rfl ok13 (by simp only; omega)) ?_
  refine ln_st rfl (st_storeS (s := ⟨false, b13, 0, (n.toNat - 4), (n.toNat - 4), none⟩) (n := 1) (k := 0) (j := 0) (a := 0) (a' := b8i x.kind) (xs := (List.replicate (n.toNat - 4) (0 : UInt8))) (enc := benc) (c := 1) (v := .int .u8 (b8i x.kind).toNat) (by kernel_rfl) rfl rfl rfl (by rw [List.getElem?_replicate, if_pos (by omega)]) (by simp [Value.cells, Value.oneCell']) rfl (by omega) (by rfl) ⟨fun _ hw => Keep.mem hw, ?_⟩)
  refine ln_r rfl (ry_idxSv (s := ⟨false, b13, 0, (n.toNat - 4), (n.toNat - 4), none⟩) (i := 1) rfl rfl rfl ok13 (by simp only; omega)) ?_
  refine ln_st rfl (st_storeS (s := ⟨false, b13, 0, (n.toNat - 4), (n.toNat - 4), none⟩) (n := 1) (k := 1) (j := 0) (a := 0) (a' := b8i x.id) (xs := ((List.replicate (n.toNat - 4) (0 : UInt8)).set 0 (b8i x.kind))) (enc := benc) (c := 1) (v := .int .u8 (b8i x.id).toNat) (by kernel_rfl) rfl rfl rfl (by rw [List.getElem?_set_ne (by decide), List.getElem?_replicate, if_pos (by omega)]) (by simp [Value.cells, Value.oneCell']) rfl (by omega) (by rfl) ⟨fun _ hw => Keep.mem hw, ?_⟩)
  refine ln_nil ?_
  refine ex_then ?_
  refine cw_seq ?_
  refine cw_mem [own benc 1 ⟨false, b13, 0, (n.toNat - 4), (n.toNat - 4), none⟩ ([b8i x.kind, b8i x.id] ++ List.replicate ((n.toNat - 4) - 2) (0 : UInt8)), blk b2 (pgcells x) 110] (fun w hw => by
   rw [lay_first (by omega)] at hw
   exact Keep.mem hw) ?_
  refine cw_lin [4, 5] [[], [], [], [], [], [4]] [0, 1, 2, 3, 4, 5] [blk b2 (pgcells x) 110] (fun _ hw => Keep.mem hw) (by kernel_rfl) (by kernel_rfl) ?_
  refine ln_r rfl (ry_move rfl) ?_
  have rg25 : Rg 2 8 (List.replicate (n.toNat - 4) (0 : UInt8)).length := ⟨by omega⟩
  refine ln_r rfl (ry_subS (s := ⟨false, b13, 0, (n.toNat - 4), (n.toNat - 4), none⟩) (l := 2) (h := 8) rfl rfl rfl rfl rfl ok13 (by omega) (by simp only; omega)) ?_
  refine ln_r rfl (ry_field (o' := 2) rfl rfl) ?_
  refine ln_r rfl (ry_cellc rfl) ?_
  refine ln_st rfl (st_callC (vs := [_, .int .i64 ((6 : Nat) : Int)]) rfl ⟨by omega, by omega, by omega⟩ fun x28 hp28 => ⟨fun _ hw => Keep.mem hw, ?_⟩)
  refine ln_st rfl (st_copyV (D := Sv.sub ⟨false, b13, 0, (n.toNat - 4), (n.toNat - 4), none⟩ 1 2 8) (S := x28) (rm := ⟨false, b13, 0, (n.toNat - 4), (n.toNat - 4), none⟩) (k := 2) (xs := ([b8i x.kind, b8i x.id] ++ List.replicate ((n.toNat - 4) - 2) (0 : UInt8))) (ys := (be x.gen.toNat 6)) rfl rfl rfl rfl (by simp only [Sv.sub]; rw [if_neg (by omega)]) rfl (by decide) rfl (by simp only [Sv.sub, be_length]; omega) (by simp only [List.length_append, be_length, List.length_replicate, List.length_cons, List.length_nil]; omega) ⟨fun _ hw => Keep.mem hw, ?_⟩)
  refine ln_nil ?_
  refine ex_then ?_
  refine cw_seq ?_
  refine cw_mem [own benc 1 ⟨false, b13, 0, (n.toNat - 4), (n.toNat - 4), none⟩ ([b8i x.kind, b8i x.id] ++ (be x.gen.toNat 6) ++ List.replicate ((n.toNat - 4) - 2 - (be x.gen.toNat 6).length) (0 : UInt8)), blk b2 (pgcells x) 110] (fun w hw => by
   rw [lay_next (A := [b8i x.kind, b8i x.id]) (k := 2) rfl] at hw
   exact Keep.mem hw) ?_
  refine cw_lin [6, 7] [[], [], [], [], [], [], [], [6]] [0, 1, 2, 3, 4, 5, 6, 7] [blk b2 (pgcells x) 110] (fun _ hw => Keep.mem hw) (by kernel_rfl) (by kernel_rfl) ?_
  refine ln_r rfl (ry_move rfl) ?_
  have rg31 : Rg 8 10 (List.replicate (n.toNat - 4) (0 : UInt8)).length := ⟨by omega⟩
  refine ln_r rfl (ry_subS (s := ⟨false, b13, 0, (n.toNat - 4), (n.toNat - 4), none⟩) (l := 8) (h := 10) rfl rfl rfl rfl rfl ok13 (by omega) (by simp only; omega)) ?_
  refine ln_r rfl (ry_field (o' := 3) rfl rfl) ?_
  refine ln_r rfl (ry_cellc rfl) ?_
  refine ln_r rfl (ry_lenH rfl) ?_
  refine ln_r rfl (ry_convn rfl (by simp only [nb]; omega)) ?_
  refine ln_st rfl (st_callC (vs := [_, .int .i64 ((2 : Nat) : Int)]) rfl ⟨by omega, by omega, by omega⟩ fun x36 hp36 => ⟨fun _ hw => Keep.mem hw, ?_⟩)
  refine ln_st rfl (st_copyV (D := Sv.sub ⟨false, b13, 0, (n.toNat - 4), (n.toNat - 4), none⟩ 1 8 10) (S := x36) (rm := ⟨false, b13, 0, (n.toNat - 4), (n.toNat - 4), none⟩) (k := 8) (xs := ([b8i x.kind, b8i x.id] ++ (be x.gen.toNat 6) ++ List.replicate ((n.toNat - 4) - 2 - (be x.gen.toNat 6).length) (0 : UInt8))) (ys := (be x.body.xs.length 2)) rfl rfl rfl rfl (by simp only [Sv.sub]; rw [if_neg (by omega)]) rfl (by decide) rfl (by simp only [Sv.sub, be_length]; omega) (by simp only [List.length_append, be_length, List.length_replicate, List.length_cons, List.length_nil]; omega) ⟨fun _ hw => Keep.mem hw, ?_⟩)
  refine ln_nil ?_
  refine ex_then ?_
  refine cw_seq ?_
  refine cw_mem [own benc 1 ⟨false, b13, 0, (n.toNat - 4), (n.toNat - 4), none⟩ ([b8i x.kind, b8i x.id] ++ (be x.gen.toNat 6) ++ (be x.body.xs.length 2) ++ List.replicate ((n.toNat - 4) - 2 - (be x.gen.toNat 6).length - (be x.body.xs.length 2).length) (0 : UInt8)), blk b2 (pgcells x) 110] (fun w hw => by
   rw [lay_next (A := [b8i x.kind, b8i x.id] ++ (be x.gen.toNat 6)) (k := 8) (by simp [be_length])] at hw
   exact Keep.mem hw) ?_
  refine cw_lin [4] [[], [], [], [], []] [0, 1, 2, 3, 4] [blk b2 (pgcells x) 110] (fun _ hw => Keep.mem hw) (by kernel_rfl) (by kernel_rfl) ?_
  refine ln_r rfl (ry_move rfl) ?_
  have rg39 : Rg 10 ((List.replicate (n.toNat - 4) (0 : UInt8)).length) (List.replicate (n.toNat - 4) (0 : UInt8)).length := ⟨by omega⟩
  refine ln_r rfl (ry_subS_lo (s := ⟨false, b13, 0, (n.toNat - 4), (n.toNat - 4), none⟩) (l := 10) (n := (n.toNat - 4)) rfl rfl rfl ok13 rfl (by omega)) ?_
  refine ln_r rfl (ry_field (o' := 3) rfl rfl) ?_
  refine ln_r rfl (ry_cellc rfl) ?_
  refine ln_st rfl (st_copyV (D := Sv.sub ⟨false, b13, 0, (n.toNat - 4), (n.toNat - 4), none⟩ 1 10 (n.toNat - 4)) (S := x.body.sv) (rm := ⟨false, b13, 0, (n.toNat - 4), (n.toNat - 4), none⟩) (k := 10) (xs := ([b8i x.kind, b8i x.id] ++ (be x.gen.toNat 6) ++ (be x.body.xs.length 2) ++ List.replicate ((n.toNat - 4) - 2 - (be x.gen.toNat 6).length - (be x.body.xs.length 2).length) (0 : UInt8))) (ys := x.body.xs) rfl rfl rfl rfl (by simp only [Sv.sub]; rw [if_neg (by omega)]) rfl (by decide) rfl (by simp only [Sv.sub, be_length]; omega) (by simp only [List.length_append, be_length, List.length_replicate, List.length_cons, List.length_nil]; omega) ⟨fun _ hw => Keep.mem hw, ?_⟩)
  refine ln_nil ?_
  refine ex_then ?_
  refine cw_seq ?_
  refine cw_mem [own benc 1 ⟨false, b13, 0, (n.toNat - 4), (n.toNat - 4), none⟩ (pageB (pvv x) n.toNat), blk b2 (pgcells x) 110] (fun w hw => by
   rw [lay_next (A := [b8i x.kind, b8i x.id] ++ (be x.gen.toNat 6) ++ (be x.body.xs.length 2)) (k := 10) (by simp [be_length]), show ([b8i x.kind, b8i x.id] ++ (be x.gen.toNat 6) ++ (be x.body.xs.length 2) ++ x.body.xs ++ List.replicate ((n.toNat - 4) - 2 - (be x.gen.toNat 6).length - (be x.body.xs.length 2).length - x.body.xs.length) (0 : UInt8)) = (pageB (pvv x) n.toNat) from by
    simp only [pageB, pvv, be_length]
    congr 2 <;> omega] at hw
   exact Keep.mem hw) ?_
  refine cw_region ?_
  refine sq_r (ry_move rfl) ?_
  refine sq_r (ry_move rfl) ?_
  refine sq_y (yl_callC rfl trivial) ?_
  refine sq_r (ry_convn rfl (by simp only [nb]; omega)) ?_
  refine sq_callC (vs := [_, .int .i64 ((4 : Nat) : Int)]) rfl ⟨by omega, by omega, by omega⟩ fun x47 hp47 => ?_
  refine sq_buildSlice (enc := (scells (τ := UInt8))) [(⟨⟨false, b13, 0, (n.toNat - 4), (n.toNat - 4), none⟩, (pageB (pvv x) n.toNat)⟩ : Sl UInt8), ⟨x47, be (crc (pageB (pvv x) n.toNat)) 4⟩] (vals := [(⟨false, b13, 0, (n.toNat - 4), (n.toNat - 4), none⟩ : Sv).val, x47.val]) rfl (by simp only [List.map_cons, List.map_nil, Sv.cells_val]; rfl) rfl (by decide) (by decide) fun b48 => ?_
  refine sq_nameD (τ := Sl UInt8) (xs := [(⟨⟨false, b13, 0, (n.toNat - 4), (n.toNat - 4), none⟩, (pageB (pvv x) n.toNat)⟩ : Sl UInt8), ⟨x47, be (crc (pageB (pvv x) n.toNat)) 4⟩]) fun a48 h48 g48 => ?_
  have hf8 : flatB a48.xs = (putF (pvv x) n).1 := by rw [h48, hE]; simp [flatB]
  have hf9 : (putF (pvv x) n).1.length ≤ 1000 := by rw [hE, List.length_append, be_length]; omega
  refine sq_callC rfl (by rw [hf8]; omega) fun x49 hp49 => ?_
  refine sq_r (ry_assign rfl) ?_
  refine sq_r (ry_assign rfl) ?_
  refine sq_nil ?_
  refine ex_then ?_
  refine cw_ret ?_
  refine ex_ret (.inl rfl) (res_2 rfl (rv_tmp rfl) (rv_tmp rfl)) (fun w1 hw => ?_)
  exact ⟨x49, by rw [hE], trivial, by rw [← hf8]; exact Keep.mem hw⟩
instance pput_i {w0 : World} {L : List Ent} {x : Pge} {n : Int} [hx : HdD w0 L x] : FnC Tryz.prog 148 w0 L [.agg (pgcells x), .int .i64 n] (Sv) (fun zz => .tuple #[zz.val, .int .i64 ((putF (pvv x) n).2)]) (fun zz => own benc 1 zz (putF (pvv x) n).1 :: L) (fun zz => True) (True) := ⟨fun hp w hw => (pput_c w x n (hx.h w hw)).mono fun e w' ⟨x, h1, h2, h3⟩ => ⟨x, h1, h2, hw.call h3⟩⟩

end Go.Proofs.YtaipiecplldinaaGreat

/- Roots told. -/
namespace Go.Proofs.YtaipiecplldinaaGreat
open Go.Eng Go.Kb
open Go.RowKit
theorem rp_build (i : Int) (g : UInt64) (w : World) : (Instr.build 110 #[(0, .int .i64 2), (1, .int .i64 i), (2, .int .u64 (g.toNat : Int))]).run Tryz.prog w = .ok (.agg (pgcells ⟨2, i, g, ⟨Sv.none, []⟩⟩)) w := by
 unfold pgcells
 kernel_rfl
theorem rtput_c (w : World) (r : Rts) (n : Int) (hr : Deep.good (hp w) r) : Calls Tryz.prog 123 #[.agg (rtcells r), .int .i64 n] w fun e w' => ∃ zz : Sv, e = .returned (.tuple #[zz.val, .int .i64 ((rputF (rvv r) n).2)]) ∧ (True) ∧ Mem w [own benc 1 zz (rputF (rvv r) n).1] w' := by
 have ghr : GvD w r := ⟨hr⟩
 have hbd := hr.1.bd
 refine calls_of (args := [_, _]) Tryz.func123 rfl Tryz.ntmps123 rfl ?_
 change Cw _ _ _ _ _ [(0, .agg (rtcells r)), (1, .int .i64 n)] []
 refine cw_seq ?_
 refine cw_region ?_
 refine sq_boxA rfl fun b2 => ?_
 refine sq_r (ry_assign rfl) ?_
 refine sq_r (ry_assign rfl) ?_
 refine sq_nil ?_
 refine ex_then ?_
 refine cw_seq ?_
 refine cw_seq ?_
 refine cw_region ?_
 refine sq_r (ry_whole rfl) ?_
 refine sq_r (ry_move rfl) ?_
 refine sq_y (yl_callC rfl trivial) ?_
 refine sq_r (ry_not rfl) ?_
 refine sq_nil ?_
 refine ex_then ?_
 refine cw_cond rfl (fun h0 => ?_) (fun h0 => ?_)
 ·
  try simp only [Z0, Z1, Z2, Z3, Z4, Z5, Z6, Z7, Z8, Z9] at h0
  have hE : rputF (rvv r) n = ([], 1) := by rw [rputF, if_neg (by rw [h0]; simp)]
  refine cw_seq ?_
  refine cw_region ?_
  refine sq_r (ry_assign rfl) ?_
  refine sq_r (ry_assign rfl) ?_
  refine sq_nil ?_
  refine ex_then ?_
  refine cw_ret ?_
  refine ex_pass_ret ?_
  refine ex_ret (.inl rfl) (res_2 rfl (rv_tmp rfl) (rv_tmp rfl)) (fun w1 hw => ?_)
  exact ⟨Sv.none, by rw [hE]; rfl, trivial, by rw [hE]; exact Mem.nilOwn benc 1 (Keep.mem hw : Mem w [] _)⟩
 ·
  try simp only [Z0, Z1, Z2, Z3, Z4, Z5, Z6, Z7, Z8, Z9] at h0
  have hE : rputF (rvv r) n = putF (⟨2, (max 0 (r.at_.xs.length - 1 : Int)), r.gen.toNat, numsB r.at_.xs⟩ : PV) n := by rw [rputF, if_pos h0]; rfl
  obtain ⟨m1, m2, m3, m4⟩ := rmayF_iff.1 h0
  have hmf : mostF n ≤ 64 := by rw [mostF]; omega
  simp only [rvv] at m2 m3 m4
  refine cw_skip ?_
  refine ex_then ?_
  refine cw_seq ?_
  refine cw_region ?_
  refine sq_r (ry_field (o' := 1) rfl rfl) ?_
  refine sq_r (ry_cellc rfl) ?_
  refine sq_r (ry_lenH rfl) ?_
  refine sq_r (ry_sub rfl rfl (by omega)) ?_
  refine sq_r (ry_max rfl rfl) ?_
  refine sq_r (ry_field (o' := 0) rfl rfl) ?_
  refine sq_r (ry_cellc rfl) ?_
  refine sq_r (ry_build (v := .agg (pgcells (⟨2, (max 0 (r.at_.xs.length - 1 : Int)), r.gen, ⟨Sv.none, []⟩⟩ : Pge))) rfl (rp_build _ r.gen)) ?_
  refine sq_allocA fun b6 => ?_
  refine sq_storeW rfl rfl ?_
  refine sq_nil ?_
  refine ex_then ?_
  refine cw_seq ?_
  refine cw_seq ?_
  refine cw_region ?_
  refine sq_r (ry_field (o' := 1) rfl rfl) ?_
  refine sq_r (ry_cellc rfl) ?_
  refine sq_r (ry_lenH rfl) ?_
  refine sq_r (ry_move rfl) ?_
  refine sq_nil ?_
  refine ex_then ?_
  refine cw_block ?_
  refine cw_loop (X := Nat × Sv) (fun zz => [(24, .int .i64 (zz.1 : Nat)), (6, .pointer (some ⟨b6, 0, none⟩)), (1, .int .i64 n), (22, r.at_.sv.val), (23, .int .i64 (r.at_.xs.length : Nat))]) (fun zz => [blk b6 (pgcells (⟨2, (max 0 (r.at_.xs.length - 1 : Int)), r.gen, ⟨zz.2, numsB (r.at_.xs.take zz.1)⟩⟩ : Pge)) 110, own benc 1 zz.2 (numsB (r.at_.xs.take zz.1)), blk b2 (rtcells r) 147]) (fun zz => zz.1 ≤ r.at_.xs.length) (fun zz => r.at_.xs.length - zz.1) (0, Sv.none) (Nat.zero_le _) (Sub.cons rfl (Sub.cons rfl (Sub.cons rfl (Sub.cons rfl (Sub.cons rfl (Sub.nil _)))))) (fun w hw => by
   simp only [List.take_zero, numsB, List.map_nil, List.flatten_nil]; exact Keep.mem (Mem.nilOwn benc 1 hw)) ?_
  rintro ⟨i, s1⟩ hi1
  dsimp only
  simp only at hi1
  refine cw_seq ?_
  refine cw_region ?_
  refine sq_r (ry_int rfl rfl rfl) ?_
  refine sq_nil ?_
  refine ex_then ?_
  refine cw_seq ?_
  refine cw_cond rfl (fun h1 => ?_) (fun h1 => ?_)
  ·
   try simp only [Z0, Z1, Z2, Z3, Z4, Z5, Z6, Z7, Z8, Z9] at h1
   obtain ⟨y, hy⟩ := get_some (xs := r.at_.xs) (i := i) (by omega)
   have hyo := numOk_iff.1 (m4 y (List.mem_of_getElem? hy))
   have hsn : numsB (r.at_.xs.take (i + 1)) = numsB (r.at_.xs.take i) ++ [b8i (y / 256), b8i y] := numsB_snoc hy
   have hnl := numsB_len (r.at_.xs.take i)
   have hnt : (r.at_.xs.take i).length ≤ 64 := by rw [List.length_take]; omega
   refine cw_skip ?_
   refine ex_then ?_
   refine cw_seq ?_
   refine cw_block ?_
   refine cw_seq ?_
   refine cw_region ?_
   refine sq_r (ry_idxH rfl rfl i rfl (by omega)) ?_
   refine sq_r (ry_elemcH (j := 0) rfl i hy rfl (by decide)) ?_
   refine sq_r (ry_assign rfl) ?_
   refine sq_nil ?_
   refine ex_then ?_
   refine cw_region ?_
   refine sq_r (ry_field (o' := 3) rfl rfl) ?_
   refine sq_r (ry_cellc rfl) ?_
   refine sq_r (ry_move rfl) ?_
   refine sq_r (Ry.to (v' := .int .i64 (y / 256)) (ry_shr (p := y.toNat) (Eq.trans (b := some (Value.int .i64 y)) rfl (by rw [Int.toNat_of_nonneg hyo.1])) rfl (by simp only [nb]; omega) (by omega)) (by rw [show (8 : Int).toNat = 8 from rfl]; congr 1; omega)) ?_
   refine sq_r (ry_conv rfl (wrap_b8i _)) ?_
   refine sq_r (ry_move rfl) ?_
   refine sq_r (ry_conv rfl (wrap_b8i _)) ?_
   refine sq_buildSlice (enc := benc) (vals := [_, _]) [(b8i (y / 256)), (b8i y)] rfl rfl rfl (by decide) (by decide) fun b35 => ?_
   refine sq_append (s := s1) (ys := [(b8i (y / 256)), (b8i y)]) rfl rfl (by decide) (fun w hw => src_rows (s := ⟨false, b35, 0, 2, 2, none⟩) Tryz.underlying38 (by decide) ((inferInstance : Hd _ _ ⟨false, b35, 0, 2, 2, none⟩ benc 1 [(b8i (y / 256)), (b8i y)]).h w hw)) (by simp only [List.length_cons, List.length_nil]; omega) (by simp only [List.length_cons, List.length_nil]; omega) fun s36 hs36 hl36 => ?_
   refine sq_r (ry_field (o' := 3) rfl rfl) ?_
   refine sq_store (cs' := pgcells (⟨2, (max 0 (r.at_.xs.length - 1 : Int)), r.gen, ⟨s36, ((numsB (r.at_.xs.take i)) ++ [(b8i (y / 256)), (b8i y)])⟩⟩ : Pge)) rfl rfl (by show 3 < 4; decide) (by first | rfl | exact Sv.one _) rfl ?_
   refine sq_nil ?_
   refine ex_block ?_
   refine ex_then ?_
   refine cw_region ?_
   refine sq_r (ry_add rfl rfl (by omega)) ?_
   refine sq_r (ry_move rfl) ?_
   refine sq_nil ?_
   exact ex_again (x := (i, s1)) (i + 1, s36) (by simp only; omega) (by simp only; omega) (Sub.cons rfl (Sub.cons rfl (Sub.cons rfl (Sub.cons rfl (Sub.cons rfl (Sub.nil _)))))) (fun w hw => by
    simp only [hsn]; exact Keep.mem hw)
  ·
   try simp only [Z0, Z1, Z2, Z3, Z4, Z5, Z6, Z7, Z8, Z9] at h1
   obtain rfl : i = r.at_.xs.length := by omega
   rw [List.take_length]
   refine cw_exit ?_
   refine ex_pass_exit ?_
   refine ex_pass_exit ?_
   refine ex_block_hit ?_
   refine ex_then ?_
   refine cw_seq ?_
   refine cw_mem [Deep.ent (⟨s1, numsB r.at_.xs⟩ : Sl UInt8), blk b6 (pgcells (⟨2, (max 0 (r.at_.xs.length - 1 : Int)), r.gen, ⟨s1, numsB r.at_.xs⟩⟩ : Pge)) 110] (fun w hw => Keep.mem (Mem.shutP (Keep.mem hw : Mem _ [own benc 1 s1 (numsB r.at_.xs), blk b6 (pgcells (⟨2, (max 0 (r.at_.xs.length - 1 : Int)), r.gen, ⟨s1, numsB r.at_.xs⟩⟩ : Pge)) 110] _))) ?_
   refine cw_region ?_
   refine sq_r (ry_whole rfl) ?_
   refine sq_r (ry_move rfl) ?_
   refine sq_callC rfl trivial fun x41 hp41 => ?_
   refine sq_r (ry_extract (v := x41.val) rfl rfl) ?_
   refine sq_r (ry_extract (v := .int .i64 ((putF (pvv (⟨2, (max 0 (r.at_.xs.length - 1 : Int)), r.gen, ⟨s1, numsB r.at_.xs⟩⟩ : Pge)) n).2)) rfl rfl) ?_
   refine sq_r (ry_assign rfl) ?_
   refine sq_r (ry_assign rfl) ?_
   refine sq_nil ?_
   refine ex_then ?_
   refine cw_ret ?_
   refine ex_ret (.inl rfl) (res_2 rfl (rv_tmp rfl) (rv_tmp rfl)) (fun w1 hw => ?_)
   exact ⟨x41, by rw [hE]; rfl, trivial, by
    have h1 : Mem w [own benc 1 x41 (putF (pvv (⟨2, (max 0 (r.at_.xs.length - 1 : Int)), r.gen, ⟨s1, numsB r.at_.xs⟩⟩ : Pge)) n).1] _ := Keep.mem hw
    rw [hE]; exact h1⟩
instance rtput_i {w0 : World} {L : List Ent} {r : Rts} {n : Int} [hr : HdD w0 L r] : FnC Tryz.prog 123 w0 L [.agg (rtcells r), .int .i64 n] (Sv) (fun zz => .tuple #[zz.val, .int .i64 ((rputF (rvv r) n).2)]) (fun zz => own benc 1 zz (rputF (rvv r) n).1 :: L) (fun zz => True) (True) := ⟨fun hp w hw => (rtput_c w r n (hr.h w hw)).mono fun e w' ⟨x, h1, h2, h3⟩ => ⟨x, h1, h2, hw.call h3⟩⟩

end Go.Proofs.YtaipiecplldinaaGreat

