/- NodeUnlike: walked. -/
import Derived.Test.YtembaconocgmlaaMg
import Derived.Test.YtembaconocgmlaaMc

set_option linter.unusedSimpArgs false
set_option linter.unusedVariables false
namespace Go.Proofs.Ytembaconocgmlaa
open Go.Eng Go.Kb

def aw12 : Nd := (Nd.zero.setSl 1 ⟨9, 258⟩).setNx 15 300
instance : BuildT Try.prog 24 [(0, .int .i64 9), (1, .int .u16 258)] (.agg (slcells ⟨9, 258⟩)) := ⟨fun w => by kernel_rfl⟩
theorem aw12_a : putE12 aw12 = 0 ∧ (putB aw12).length = 80 ∧ ((putB aw12).getD 5 0).toNat = 9 ∧ ((putB aw12).getD 6 0).toNat = 1 ∧ ((putB aw12).getD 79 0).toNat = 44 ∧ readE (putB aw12) = 0 ∧ readN (putB aw12) = aw12 ∧ nmay aw12 = true := by decide +kernel
set_option maxRecDepth 20000 in
theorem awake12_c (w : World)   : Calls Try.prog 18 #[] w fun e w' => e = .returned (.bool true) ∧ Mem w [] w' := by
  refine calls_of (args := []) Try.func18 rfl Try.ntmps18 rfl ?_
  change Cw _ _ _ _ _ [] []
  refine cw_seq ?_
  refine cw_region ?_
  refine sq_r (ry_assign rfl) ?_
  refine sq_nil ?_
  refine ex_then ?_
  refine cw_seq ?_
  refine cw_region ?_
  refine sq_allocA fun b1 => ?_
  refine sq_nil ?_
  refine ex_then ?_
  refine cw_seq ?_
  refine cw_region ?_
  refine sq_r (ry_buildc rfl) ?_
  refine sq_r (ry_field (o' := 0) rfl rfl) ?_
  refine sq_r (ry_idxA rfl rfl (by omega) (by omega)) ?_
  refine sq_bstSl rfl rfl 1 (by omega) (by simp only [Nat.add_eq, Int.toNat_natCast, Nat.mul_one, Nat.zero_add, Nat.add_zero] <;> omega) ?_
  refine sq_nil ?_
  refine ex_then ?_
  refine cw_seq ?_
  refine cw_region ?_
  refine sq_r (ry_field (o' := 32) rfl rfl) ?_
  refine sq_r (ry_idxA rfl rfl (by omega) (by omega)) ?_
  refine sq_bstNx rfl rfl 15 (by omega) (by simp only [Nat.add_eq, Int.toNat_natCast, Nat.mul_one, Nat.zero_add, Nat.add_zero] <;> omega) ?_
  refine sq_nil ?_
  refine ex_then ?_
  refine cw_seq ?_
  change Cw _ _ _ _ _ _ [blk b1 (ncells aw12) 28]
  refine cw_region ?_
  refine sq_r (ry_whole rfl) ?_
  refine sq_callC rfl trivial fun x13 hp13 => ?_
  refine sq_r (ry_move rfl) ?_
  refine sq_r (ry_extract (v := x13.val) rfl rfl) ?_
  refine sq_r (ry_extract (v := .int .i64 (putE12 aw12)) rfl rfl) ?_
  refine sq_r (ry_assign rfl) ?_
  refine sq_r (ry_assign rfl) ?_
  refine sq_nil ?_
  refine ex_then ?_
  refine cw_seq ?_
  refine cw_region ?_
  refine sq_r (ry_move rfl) ?_
  refine sq_y (yl_callC rfl trivial) ?_
  refine sq_r (ry_move rfl) ?_
  refine sq_r (ry_extract (v := .agg (ncells (readN (putB aw12)))) rfl rfl) ?_
  refine sq_r (ry_extract (v := .int .i64 (readE (putB aw12))) rfl rfl) ?_
  refine sq_allocA fun b4 => ?_
  refine sq_storeW rfl rfl ?_
  refine sq_r (ry_assign rfl) ?_
  refine sq_nil ?_
  refine ex_then ?_
  refine cw_seq ?_
  refine cw_region ?_
  refine sq_r (ry_move rfl) ?_
  refine sq_r (ry_int rfl rfl rfl) ?_
  refine sq_r (ry_move rfl) ?_
  refine sq_gt rfl rfl rfl (fun hg => (Ry.yl (ry_move rfl))) ?_
  refine sq_gt rfl rfl rfl (fun hg => (Ry.yl (ry_lenH (ev_c hg rfl)))) ?_
  refine sq_gt rfl rfl rfl (fun hg => (Ry.yl (ry_int (ev_c hg rfl) rfl rfl))) ?_
  refine sq_r (ry_and rfl rfl rfl) ?_
  refine sq_r (ry_move rfl) ?_
  refine sq_gt rfl rfl rfl (fun hg => (Ry.yl (ry_move rfl))) ?_
  refine sq_gt rfl rfl rfl (fun hg => (Ry.yl (ry_idxH (ev_c hg rfl) rfl 5 rfl (by rw [aw12_a.2.1]; omega)))) ?_
  refine sq_gt rfl rfl rfl (fun hg => (Ry.yl (ry_elemcH (j := 0) (ev_c hg rfl) 5 (get_getD (xs := putB aw12) (i := 5) (d := 0) (by rw [aw12_a.2.1]; omega)) rfl (by decide)))) ?_
  refine sq_gt rfl rfl rfl (fun hg => (Ry.yl (ry_int (ev_c hg rfl) rfl rfl))) ?_
  refine sq_r (ry_and rfl rfl rfl) ?_
  refine sq_r (ry_move rfl) ?_
  refine sq_gt rfl rfl rfl (fun hg => (Ry.yl (ry_move rfl))) ?_
  refine sq_gt rfl rfl rfl (fun hg => (Ry.yl (ry_idxH (ev_c hg rfl) rfl 6 rfl (by rw [aw12_a.2.1]; omega)))) ?_
  refine sq_gt rfl rfl rfl (fun hg => (Ry.yl (ry_elemcH (j := 0) (ev_c hg rfl) 6 (get_getD (xs := putB aw12) (i := 6) (d := 0) (by rw [aw12_a.2.1]; omega)) rfl (by decide)))) ?_
  refine sq_gt rfl rfl rfl (fun hg => (Ry.yl (ry_int (ev_c hg rfl) rfl rfl))) ?_
  refine sq_r (ry_and rfl rfl rfl) ?_
  refine sq_r (ry_move rfl) ?_
  refine sq_gt rfl rfl rfl (fun hg => (Ry.yl (ry_move rfl))) ?_
  refine sq_gt rfl rfl rfl (fun hg => (Ry.yl (ry_idxH (ev_c hg rfl) rfl 79 rfl (by rw [aw12_a.2.1]; omega)))) ?_
  refine sq_gt rfl rfl rfl (fun hg => (Ry.yl (ry_elemcH (j := 0) (ev_c hg rfl) 79 (get_getD (xs := putB aw12) (i := 79) (d := 0) (by rw [aw12_a.2.1]; omega)) rfl (by decide)))) ?_
  refine sq_gt rfl rfl rfl (fun hg => (Ry.yl (ry_int (ev_c hg rfl) rfl rfl))) ?_
  refine sq_r (ry_and rfl rfl rfl) ?_
  refine sq_r (ry_move rfl) ?_
  refine sq_gt rfl rfl rfl (fun hg => (Ry.yl (ry_move rfl))) ?_
  refine sq_gt rfl rfl rfl (fun hg => (Ry.yl (ry_int (ev_c hg rfl) rfl rfl))) ?_
  refine sq_r (ry_and rfl rfl rfl) ?_
  refine sq_r (ry_move rfl) ?_
  refine sq_gt rfl rfl rfl (fun hg => (Ry.yl (ry_whole rfl))) ?_
  refine sq_gt rfl rfl rfl (fun hg => (Ry.yl (ry_whole rfl))) ?_
  refine sq_gt rfl rfl rfl (fun hg => (Ry.yl (ry_eq (ev_c hg rfl) (ev_c hg rfl)))) ?_
  refine sq_r (ry_and rfl rfl rfl) ?_
  refine sq_r (ry_move rfl) ?_
  refine sq_gt rfl rfl rfl (fun hg => (Ry.yl (ry_whole rfl))) ?_
  refine sq_gt rfl rfl rfl (fun hg => yl_callC (evl_cons (ev_c hg rfl) evl_nil) trivial) ?_
  refine sq_r (ry_and rfl rfl rfl) ?_
  refine sq_r (ry_assign rfl) ?_
  refine sq_nil ?_
  refine ex_then ?_
  refine cw_ret ?_
  refine ex_ret (.inl rfl) (res_1 rfl (rv_tmp rfl)) (fun w1 hw => ?_)
  exact ⟨congrArg (fun b => Ending.returned (Value.bool b)) ((by obtain ⟨h1, h2, h3, h4, h5, h6, h7, h8⟩ := aw12_a; simp only [h1, h2, h3, h4, h5, h6, h7, h8]; decide)), Keep.mem hw⟩
instance awake12_i {w0 : World} {L : List Ent}   : FnQ Try.prog 18 w0 L [] (.bool true) (True) := ⟨fun hp w hw => awake12_c w  ⟩
set_option maxRecDepth 20000 in
theorem nodeUnlike_c (w : World) (a : Nd) (b : Nd) (at_ : UInt8) (c : UInt8)  : Calls Try.prog 3 #[.agg (ncells a), .agg (ncells b), .int .u8 (at_.toNat : Nat), .int .u8 (c.toNat : Nat)] w fun e w' => e = .returned (.bool true) ∧ Mem w [] w' := by
  refine calls_of (args := [_, _, _, _]) Try.func3 rfl Try.ntmps3 rfl ?_
  change Cw _ _ _ _ _ [(0, .agg (ncells a)), (1, .agg (ncells b)), (2, .int .u8 (at_.toNat : Nat)), (3, .int .u8 (c.toNat : Nat))] []
  refine cw_seq ?_
  refine cw_region ?_
  refine sq_boxA rfl fun b4 => ?_
  refine sq_boxA rfl fun b5 => ?_
  refine sq_r (ry_assign rfl) ?_
  refine sq_nil ?_
  refine ex_then ?_
  refine cw_seq ?_
  refine cw_seq ?_
  refine cw_region ?_
  refine sq_y (yl_callC rfl trivial) ?_
  refine sq_r (ry_not rfl) ?_
  refine sq_nil ?_
  refine ex_then ?_
  refine cw_cond rfl (fun h0 => ?_) (fun h0 => ?_)
  · exfalso; simp at h0
  · try simp only [Bool.and_eq_true, Bool.or_eq_true, Bool.and_eq_false_iff, Bool.or_eq_false_iff, Bool.not_eq_true', Bool.not_eq_false', decide_eq_true_eq, decide_eq_false_iff_not, Bool.not_eq_true, Bool.not_eq_false] at h0
    refine cw_skip ?_
    refine ex_then ?_
    refine cw_seq ?_
    refine cw_region ?_
    refine sq_r (ry_whole rfl) ?_
    refine sq_callC rfl trivial fun x20 hp20 => ?_
    refine sq_r (ry_move rfl) ?_
    refine sq_r (ry_extract (v := x20.val) rfl rfl) ?_
    refine sq_r (ry_extract (v := .int .i64 (putE12 a)) rfl rfl) ?_
    refine sq_r (ry_assign rfl) ?_
    refine sq_r (ry_assign rfl) ?_
    refine sq_nil ?_
    refine ex_then ?_
    refine cw_seq ?_
    refine cw_region ?_
    refine sq_r (ry_whole rfl) ?_
    refine sq_callC rfl trivial fun x25 hp25 => ?_
    refine sq_r (ry_move rfl) ?_
    refine sq_r (ry_extract (v := x25.val) rfl rfl) ?_
    refine sq_r (ry_extract (v := .int .i64 (putE12 b)) rfl rfl) ?_
    refine sq_r (ry_assign rfl) ?_
    refine sq_r (ry_assign rfl) ?_
    refine sq_nil ?_
    refine ex_then ?_
    refine cw_seq ?_
    refine cw_seq ?_
    refine cw_region ?_
    refine sq_r (ry_move rfl) ?_
    refine sq_r (ry_int rfl rfl rfl) ?_
    refine sq_r (ry_move rfl) ?_
    refine sq_gf rfl rfl rfl (fun hg => (Ry.yl (ry_move rfl))) ?_
    refine sq_gf rfl rfl rfl (fun hg => (Ry.yl (ry_int (ev_c hg rfl) rfl rfl))) ?_
    refine sq_r (ry_or rfl rfl rfl) ?_
    refine sq_nil ?_
    refine ex_then ?_
    refine cw_cond rfl (fun h1 => ?_) (fun h1 => ?_)
    · try simp only [Bool.and_eq_true, Bool.or_eq_true, Bool.and_eq_false_iff, Bool.or_eq_false_iff, Bool.not_eq_true', Bool.not_eq_false', decide_eq_true_eq, decide_eq_false_iff_not, Bool.not_eq_true, Bool.not_eq_false] at h1
      have hn : nmay a = false ∨ nmay b = false := by
        rcases h1 with h | h
        · exact .inl (by cases hm : nmay a with | false => rfl | true => exact absurd ((putE_may a).2 hm) h)
        · exact .inr (by cases hm : nmay b with | false => rfl | true => exact absurd ((putE_may b).2 hm) h)
      refine cw_seq ?_
      refine cw_region ?_
      refine sq_r (ry_whole rfl) ?_
      refine sq_y (yl_callC rfl trivial) ?_
      refine sq_r (ry_not rfl) ?_
      refine sq_r (ry_move rfl) ?_
      refine sq_gf rfl rfl rfl (fun hg => (Ry.yl (ry_whole rfl))) ?_
      refine sq_gf rfl rfl rfl (fun hg => yl_callC (evl_cons (ev_c hg rfl) evl_nil) trivial) ?_
      refine sq_gf rfl rfl rfl (fun hg => (Ry.yl (ry_not (ev_c hg rfl)))) ?_
      refine sq_r (ry_or rfl rfl rfl) ?_
      refine sq_r (ry_assign rfl) ?_
      refine sq_nil ?_
      refine ex_then ?_
      refine cw_ret ?_
      refine ex_pass_ret ?_
      refine ex_ret (.inl rfl) (res_1 rfl (rv_tmp rfl)) (fun w1 hw => ?_)
      exact ⟨congrArg (fun b => Ending.returned (Value.bool b)) ((by rcases hn with h | h <;> simp [h])), Keep.mem hw⟩
    · try simp only [Bool.and_eq_true, Bool.or_eq_true, Bool.and_eq_false_iff, Bool.or_eq_false_iff, Bool.not_eq_true', Bool.not_eq_false', decide_eq_true_eq, decide_eq_false_iff_not, Bool.not_eq_true, Bool.not_eq_false] at h1
      obtain ⟨ma, ea⟩ := put_ok h1.1
      obtain ⟨mb, eb⟩ := put_ok h1.2
      have hla : (putB a).length = 80 := by rw [ea]; exact nbytes_length a
      have hinj : (putB a = putB b) ↔ a = b := by rw [ea, eb]; exact nbytes_inj ma mb
      have hal := at_.toNat_lt
      refine cw_skip ?_
      refine ex_then ?_
      refine cw_seq ?_
      refine cw_seq ?_
      refine cw_quiet (by kernel_rfl) (by kernel_rfl) ?_
      refine qt_r (ry_move rfl) ?_
      refine qt_r (ry_bstrH Try.underlying30 Try.underlying5 Try.underlying9 rfl) ?_
      refine qt_r (ry_move rfl) ?_
      refine qt_r (ry_bstrH Try.underlying30 Try.underlying5 Try.underlying9 rfl) ?_
      refine qt_r (ry_streqL rfl rfl) ?_
      refine qt_r (ry_whole rfl) ?_
      refine qt_r (ry_whole rfl) ?_
      refine qt_r (ry_eq rfl rfl) ?_
      refine qt_r (ry_neb rfl rfl Try.underlying4) ?_
      refine qt_r (ry_move rfl) ?_
      refine qt_gf rfl rfl rfl (fun hg => (Ry.yl (ry_move rfl))) ?_
      refine qt_gf rfl rfl rfl (fun hg => (Ry.yl (ry_lenH (ev_c hg rfl)))) ?_
      refine qt_gf rfl rfl rfl (fun hg => (Ry.yl (ry_int (ev_c hg rfl) rfl rfl))) ?_
      refine qt_r (ry_or rfl rfl rfl) ?_
      refine qt_nil ?_
      refine ex_then ?_
      refine cw_cond rfl (fun h2 => ?_) (fun h2 => ?_)
      · exfalso; simp [hla, hinj] at h2
      · try simp only [Bool.and_eq_true, Bool.or_eq_true, Bool.and_eq_false_iff, Bool.or_eq_false_iff, Bool.not_eq_true', Bool.not_eq_false', decide_eq_true_eq, decide_eq_false_iff_not, Bool.not_eq_true, Bool.not_eq_false] at h2
        refine cw_skip ?_
        refine ex_then ?_
        refine cw_seq ?_
        refine cw_region ?_
        refine sq_r (ry_move rfl) ?_
        refine sq_r (ry_conv_u8 rfl) ?_
        refine sq_r (ry_remn (p := at_.toNat) (q := 80) rfl rfl rfl rfl (by omega)) ?_
        refine sq_r (ry_assign rfl) ?_
        refine sq_nil ?_
        refine ex_then ?_
        refine cw_seq ?_
        refine cw_seq ?_
        refine cw_region ?_
        refine sq_r (ry_move rfl) ?_
        refine sq_r (ry_move rfl) ?_
        obtain ⟨e61, he61⟩ := get_some (xs := putB a) (i := (at_.toNat % 80)) (by omega)
        refine sq_r (ry_idxH rfl rfl (at_.toNat % 80) rfl (by omega)) ?_
        refine sq_r (ry_elemcH (j := 0) rfl (at_.toNat % 80) he61 rfl (by decide)) ?_
        refine sq_r (ry_move rfl) ?_
        refine sq_r (ry_int rfl rfl rfl) ?_
        refine sq_nil ?_
        refine ex_then ?_
        refine cw_cond rfl (fun h3 => ?_) (fun h3 => ?_)
        · try simp only [Bool.and_eq_true, Bool.or_eq_true, Bool.and_eq_false_iff, Bool.or_eq_false_iff, Bool.not_eq_true', Bool.not_eq_false', decide_eq_true_eq, decide_eq_false_iff_not, Bool.not_eq_true, Bool.not_eq_false] at h3
          refine cw_seq ?_
          refine cw_region ?_
          refine sq_r (ry_assign rfl) ?_
          refine sq_nil ?_
          refine ex_then ?_
          refine cw_ret ?_
          refine ex_pass_ret ?_
          refine ex_ret (.inl rfl) (res_1 rfl (rv_tmp rfl)) (fun w1 hw => ?_)
          exact ⟨congrArg (fun b => Ending.returned (Value.bool b)) (rfl), Keep.mem hw⟩
        · try simp only [Bool.and_eq_true, Bool.or_eq_true, Bool.and_eq_false_iff, Bool.or_eq_false_iff, Bool.not_eq_true', Bool.not_eq_false', decide_eq_true_eq, decide_eq_false_iff_not, Bool.not_eq_true, Bool.not_eq_false] at h3
          have hne : e61 ≠ c := fun e => h3 (by rw [e])
          obtain hq := read_set (a := a) (k := at_.toNat % 80) (c := c) ma (by omega) (by rw [← ea, he61]; simp [hne])
          rw [← ea] at hq
          refine cw_skip ?_
          refine ex_then ?_
          refine cw_seq ?_
          refine cw_region ?_
          refine sq_r (ry_move rfl) ?_
          refine sq_r (ry_move rfl) ?_
          refine sq_r (ry_move rfl) ?_
          refine sq_r (ry_idxH rfl rfl (at_.toNat % 80) rfl (by omega)) ?_
          refine sq_stU rfl rfl he61 rfl ?_
          refine sq_nil ?_
          refine ex_then ?_
          refine cw_seq ?_
          refine cw_region ?_
          refine sq_r (ry_move rfl) ?_
          refine sq_y (yl_callC rfl trivial) ?_
          refine sq_r (ry_move rfl) ?_
          refine sq_r (ry_extract (v := .agg (ncells (readN ((putB a).set (at_.toNat % 80) c)))) rfl rfl) ?_
          refine sq_r (ry_extract (v := .int .i64 (readE ((putB a).set (at_.toNat % 80) c))) rfl rfl) ?_
          refine sq_allocA fun b14 => ?_
          refine sq_storeW rfl rfl ?_
          refine sq_r (ry_assign rfl) ?_
          refine sq_nil ?_
          refine ex_then ?_
          refine cw_seq ?_
          refine cw_region ?_
          refine sq_r (ry_move rfl) ?_
          refine sq_r (ry_int rfl rfl rfl) ?_
          refine sq_r (ry_move rfl) ?_
          refine sq_gt rfl rfl rfl (fun hg => (Ry.yl (ry_whole rfl))) ?_
          refine sq_gt rfl rfl rfl (fun hg => (Ry.yl (ry_whole rfl))) ?_
          refine sq_gt rfl rfl rfl (fun hg => (Ry.yl (ry_ne (ev_c hg rfl) (ev_c hg rfl)))) ?_
          refine sq_r (ry_and rfl rfl rfl) ?_
          refine sq_r (ry_move rfl) ?_
          refine sq_gf rfl rfl rfl (fun hg => (Ry.yl (ry_move rfl))) ?_
          refine sq_gf rfl rfl rfl (fun hg => (Ry.yl (ry_int (ev_c hg rfl) rfl rfl))) ?_
          refine sq_gf rfl rfl rfl (fun hg => (Ry.yl (ry_move (ev_c hg rfl)))) ?_
          refine sq_nt rfl rfl rfl (fun hg => (Ry.yl (ry_whole rfl))) ?_
          refine sq_nt rfl rfl rfl (fun hg => (Ry.yl (ry_buildc rfl))) ?_
          refine sq_nt rfl rfl rfl (fun hg => (Ry.yl (ry_eq (ev_c hg rfl) (ev_c hg rfl)))) ?_
          refine sq_gf rfl rfl rfl (fun hg => (Ry.yl (ry_and (ev_c hg rfl) (ev_cc hg rfl) rfl))) ?_
          refine sq_r (ry_or rfl rfl rfl) ?_
          refine sq_r (ry_assign rfl) ?_
          refine sq_nil ?_
          refine ex_then ?_
          refine cw_ret ?_
          refine ex_ret (.inl rfl) (res_1 rfl (rv_tmp rfl)) (fun w1 hw => ?_)
          exact ⟨congrArg (fun b => Ending.returned (Value.bool b)) ((by rcases hq with ⟨h, h2⟩ | ⟨h, h2⟩ <;> simp [h, h2])), Keep.mem hw⟩

end Go.Proofs.Ytembaconocgmlaa

