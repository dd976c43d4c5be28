/- Sums of bytes: walked. -/
import Derived.Test.YtajhlgdapiihgaaMi
import Derived.Test.YtajhlgdapiihgaaMj
import Derived.Test.YtajhlgdapiihgaaMe

set_option linter.unusedSimpArgs false
set_option linter.unusedVariables false
namespace Go.Proofs.Ytajhlgdapiihgaa
open Go.Eng Go.Kb
set_option maxRecDepth 20000 in
theorem sumOn_c (w : World) (b : Sv) (bs : List UInt8) (hb : Lies benc 1 (hp w) b bs) : Calls Try.prog 160 #[.int .u32 0, b.val] w fun e w' => e = .returned (.int .u32 (crc bs : Nat)) ∧ Mem w [] w' := by
  have ghb : Gv w b benc 1 bs := ⟨hb⟩
  have hbd := hb.bd
  refine calls_of (args := [_, _]) Try.func160 rfl Try.ntmps160 rfl ?_
  change Cw _ _ _ _ _ [(0, .int .u32 0), (1, b.val)] []
  refine cw_seq ?_
  refine cw_region ?_
  refine sq_r (ry_assign rfl) ?_
  refine sq_nil ?_
  refine ex_then ?_
  refine cw_seq ?_
  refine cw_region ?_
  refine sq_r (ry_move rfl) ?_
  refine sq_r (ry_compl32 (p := 0) rfl rfl (by decide)) ?_
  refine sq_r (ry_assign rfl) ?_
  refine sq_nil ?_
  refine ex_then ?_
  refine cw_seq ?_
  refine cw_seq ?_
  refine cw_region ?_
  refine sq_r (ry_move rfl) ?_
  refine sq_r (ry_lenH rfl) ?_
  refine sq_r (ry_move rfl) ?_
  refine sq_nil ?_
  refine ex_then ?_
  refine cw_block ?_
  refine cw_loop (X := Nat) (fun zz => [(13, .int .i64 (zz : Nat)), (5, .int .u32 (crcS 4294967295 (bs.take zz) : Nat)), (11, b.val), (12, .int .i64 (bs.length : Nat))]) (fun zz => []) (fun zz => zz ≤ bs.length) (fun zz => bs.length - zz) 0 (Nat.zero_le _) (Sub.cons rfl (Sub.cons rfl (Sub.cons rfl (Sub.cons rfl (Sub.nil _))))) (fun w hw => Keep.mem hw) ?_
  rintro i hi
  have hlt : crcS 4294967295 (bs.take i) < 2 ^ 32 := crcS_lt (by decide) _
  refine cw_seq ?_
  refine cw_region ?_
  refine sq_r (ry_int rfl rfl rfl) ?_
  refine sq_nil ?_
  refine ex_then ?_
  refine cw_seq ?_
  refine cw_cond rfl (fun h0 => ?_) (fun h0 => ?_)
  · try simp only [Bool.and_eq_true, Bool.or_eq_true, Bool.and_eq_false_iff, Bool.or_eq_false_iff, Bool.not_eq_true', Bool.not_eq_false', decide_eq_true_eq, decide_eq_false_iff_not, Bool.not_eq_true, Bool.not_eq_false] at h0
    obtain ⟨y, he⟩ := get_some (xs := bs) (i := i) (by omega)
    have hy := y.toNat_lt
    have hx0 : crcS 4294967295 (bs.take i) ^^^ y.toNat < 2 ^ 32 := Nat.xor_lt_two_pow (crcS_lt (by decide) _) (by omega)
    refine cw_skip ?_
    refine ex_then ?_
    refine cw_seq ?_
    refine cw_block ?_
    refine cw_seq ?_
    refine cw_region ?_
    refine sq_r (ry_idxH rfl rfl i rfl (by omega)) ?_
    refine sq_r (ry_elemcH (j := 0) rfl i he rfl (by decide)) ?_
    refine sq_r (ry_assign rfl) ?_
    refine sq_nil ?_
    refine ex_then ?_
    refine cw_seq ?_
    refine cw_region ?_
    refine sq_r (ry_move rfl) ?_
    refine sq_r (ry_move rfl) ?_
    refine sq_r (ry_convn rfl (by simp only [nb]; omega)) ?_
    refine sq_r (ry_bxor rfl rfl rfl rfl (by simp only [nb]; omega) (by simp only [nb]; omega)) ?_
    refine sq_r (ry_assign rfl) ?_
    refine sq_nil ?_
    refine ex_then ?_
    refine cw_seq ?_
    refine cw_region ?_
    refine sq_r (ry_move rfl) ?_
    refine sq_nil ?_
    refine ex_then ?_
    refine cw_block ?_
    refine cw_loop (X := Nat) (fun zz => [(21, .int .i64 (zz : Nat)), (5, .int .u32 ((crcN (crcS 4294967295 (bs.take i) ^^^ y.toNat) zz) : Nat)), (11, b.val), (12, .int .i64 (bs.length : Nat)), (13, .int .i64 (i : Nat))]) (fun zz => []) (fun zz => zz ≤ 8) (fun zz => 8 - zz) 0 (Nat.zero_le _) (Sub.cons rfl (Sub.cons rfl (Sub.cons rfl (Sub.cons rfl (Sub.cons rfl (Sub.nil _)))))) (fun w hw => Keep.mem hw) ?_
    rintro k hk
    refine cw_seq ?_
    refine cw_region ?_
    refine sq_r (ry_int rfl rfl rfl) ?_
    refine sq_nil ?_
    refine ex_then ?_
    refine cw_seq ?_
    refine cw_cond rfl (fun h1 => ?_) (fun h1 => ?_)
    · try simp only [Bool.and_eq_true, Bool.or_eq_true, Bool.and_eq_false_iff, Bool.or_eq_false_iff, Bool.not_eq_true', Bool.not_eq_false', decide_eq_true_eq, decide_eq_false_iff_not, Bool.not_eq_true, Bool.not_eq_false] at h1
      have hk0 : (crcN (crcS 4294967295 (bs.take i) ^^^ y.toNat) k) < 2 ^ 32 := crcN_lt hx0 k
      have hk1 : (crcN (crcS 4294967295 (bs.take i) ^^^ y.toNat) k) / 2 < 2 ^ 32 := by omega
      refine cw_skip ?_
      refine ex_then ?_
      refine cw_seq ?_
      refine cw_block ?_
      refine cw_seq ?_
      refine cw_region ?_
      refine sq_r (ry_move rfl) ?_
      refine sq_r (Ry.to (v' := .int .u32 (((crcN (crcS 4294967295 (bs.take i) ^^^ y.toNat) k) % 2 : Nat) : Int)) (ry_band (p := (crcN (crcS 4294967295 (bs.take i) ^^^ y.toNat) k)) (q := 1) rfl rfl rfl rfl (by simp only [nb]; omega) (by decide)) (by rw [Nat.and_one_is_mod])) ?_
      refine sq_r (ry_assign rfl) ?_
      refine sq_nil ?_
      refine ex_then ?_
      refine cw_seq ?_
      refine cw_region ?_
      refine sq_r (ry_move rfl) ?_
      refine sq_r (ry_shr (p := (crcN (crcS 4294967295 (bs.take i) ^^^ y.toNat) k)) rfl rfl (by simp only [nb]; omega) (by omega)) ?_
      refine sq_r (ry_assign rfl) ?_
      refine sq_nil ?_
      refine ex_then ?_
      refine cw_region ?_
      refine sq_r (ry_move rfl) ?_
      refine sq_r (ry_move rfl) ?_
      refine sq_r (ry_muln (p := 3988292384) (q := (crcN (crcS 4294967295 (bs.take i) ^^^ y.toNat) k) % 2) rfl rfl rfl rfl (by simp only [nb]; omega)) ?_
      refine sq_r (Ry.to (v' := .int .u32 ((crcN (crcS 4294967295 (bs.take i) ^^^ y.toNat) (k + 1) : Nat) : Int)) (ry_bxor (p := (crcN (crcS 4294967295 (bs.take i) ^^^ y.toNat) k) / 2 ^ 1) (q := 3988292384 * ((crcN (crcS 4294967295 (bs.take i) ^^^ y.toNat) k) % 2)) rfl rfl rfl rfl (by simp only [nb]; omega) (by simp only [nb]; omega)) (by rw [crcN, crcT]; rcases Nat.mod_two_eq_zero_or_one (crcN (crcS 4294967295 (bs.take i) ^^^ y.toNat) k) with h | h <;> rw [h] <;> rfl)) ?_
      refine sq_r (ry_assign rfl) ?_
      refine sq_nil ?_
      refine ex_block ?_
      refine ex_then ?_
      refine cw_region ?_
      refine sq_r (ry_add rfl rfl (by omega)) ?_
      refine sq_r (ry_move rfl) ?_
      refine sq_nil ?_
      exact ex_again (x := (k)) (k + 1) (by first | omega | (simp only []; omega)) (by first | omega | (simp only []; omega)) (Sub.cons rfl (Sub.cons rfl (Sub.cons rfl (Sub.cons rfl (Sub.cons rfl (Sub.nil _)))))) (fun w hw => Keep.mem hw)
    · try simp only [Bool.and_eq_true, Bool.or_eq_true, Bool.and_eq_false_iff, Bool.or_eq_false_iff, Bool.not_eq_true', Bool.not_eq_false', decide_eq_true_eq, decide_eq_false_iff_not, Bool.not_eq_true, Bool.not_eq_false] at h1
      obtain rfl : k = 8 := by omega
      refine cw_exit ?_
      refine ex_pass_exit ?_
      refine ex_pass_exit ?_
      refine ex_block_hit ?_
      refine ex_block ?_
      refine ex_then ?_
      refine cw_region ?_
      refine sq_r (ry_add rfl rfl (by omega)) ?_
      refine sq_r (ry_move rfl) ?_
      refine sq_nil ?_
      exact ex_again (x := (i)) (i + 1) (by first | omega | (simp only []; omega)) (by first | omega | (simp only []; omega)) (Sub.cons rfl (Sub.cons (look_eq rfl (by rw [crcS_snoc he]; rfl)) (Sub.cons rfl (Sub.cons rfl (Sub.nil _))))) (fun w hw => Keep.mem hw)
  · try simp only [Bool.and_eq_true, Bool.or_eq_true, Bool.and_eq_false_iff, Bool.or_eq_false_iff, Bool.not_eq_true', Bool.not_eq_false', decide_eq_true_eq, decide_eq_false_iff_not, Bool.not_eq_true, Bool.not_eq_false] at h0
    obtain rfl : i = bs.length := by omega
    refine cw_exit ?_
    refine ex_pass_exit ?_
    refine ex_pass_exit ?_
    refine ex_block_hit ?_
    refine ex_then ?_
    refine cw_seq ?_
    refine cw_region ?_
    refine sq_r (ry_move rfl) ?_
    refine sq_r (ry_compl32 (p := crcS 4294967295 (bs.take bs.length)) rfl rfl (crcS_lt (by decide) _)) ?_
    refine sq_r (ry_assign rfl) ?_
    refine sq_nil ?_
    refine ex_then ?_
    refine cw_ret ?_
    refine ex_ret (.inl rfl) (res_1 rfl (rv_tmp rfl)) (fun w1 hw => ?_)
    exact ⟨(by rw [List.take_length]; rfl), Keep.mem hw⟩
instance sumOn_i {w0 : World} {L : List Ent} {b : Sv} {bs : List UInt8} [hb : HdE w0 L benc 1 b bs] : FnQ Try.prog 160 w0 L [.int .u32 0, b.val] (.int .u32 (crc bs : Nat)) (True) := ⟨fun hp w hw => sumOn_c w b bs (hb.h w hw)⟩
set_option maxRecDepth 20000 in
theorem sumOf_c (w : World) (b : Sv) (bs : List UInt8) (hb : Lies benc 1 (hp w) b bs) : Calls Try.prog 138 #[b.val] w fun e w' => e = .returned (.int .u32 (crc bs : Nat)) ∧ Mem w [] w' := by
  have ghb : Gv w b benc 1 bs := ⟨hb⟩
  refine calls_of (args := [_]) Try.func138 rfl Try.ntmps138 rfl ?_
  change Cw _ _ _ _ _ [(0, b.val)] []
  refine cw_seq ?_
  refine cw_region ?_
  refine sq_r (ry_assign rfl) ?_
  refine sq_nil ?_
  refine ex_then ?_
  refine cw_seq ?_
  refine cw_region ?_
  refine sq_r (ry_move rfl) ?_
  refine sq_y (yl_callC rfl trivial) ?_
  refine sq_r (ry_assign rfl) ?_
  refine sq_nil ?_
  refine ex_then ?_
  refine cw_ret ?_
  refine ex_ret (.inl rfl) (res_1 rfl (rv_tmp rfl)) (fun w1 hw => ?_)
  exact ⟨rfl, Keep.mem hw⟩
instance sumOf_i {w0 : World} {L : List Ent} {b : Sv} {bs : List UInt8} [hb : HdE w0 L benc 1 b bs] : FnQ Try.prog 138 w0 L [b.val] (.int .u32 (crc bs : Nat)) (True) := ⟨fun hp w hw => sumOf_c w b bs (hb.h w hw)⟩
instance : ZeroT Try.prog 5 (.int .u8 0) := ⟨by kernel_rfl⟩
set_option maxRecDepth 20000 in
theorem sumPut_c (w : World) (n : Nat) (many : Nat)  (hpre : n < 2 ^ 64 ∧ 1 ≤ many ∧ many ≤ 8) : Calls Try.prog 100 #[.int .u64 (n : Nat), .int .i64 (many : Nat)] w fun e w' => ∃ zz : Sv, e = .returned (zz.val) ∧ (True) ∧ Mem w [own benc 1 zz (be n many)] w' := by
  obtain ⟨hp1, hp2, hp3⟩ := hpre
  refine calls_of (args := [_, _]) Try.func100 rfl Try.ntmps100 rfl ?_
  change Cw _ _ _ _ _ [(0, .int .u64 (n : Nat)), (1, .int .i64 (many : Nat))] []
  refine cw_seq ?_
  refine cw_region ?_
  refine sq_r (ry_assign rfl) ?_
  refine sq_nil ?_
  refine ex_then ?_
  refine cw_seq ?_
  refine cw_seq ?_
  refine cw_region ?_
  refine sq_r (ry_move rfl) ?_
  refine sq_r (ry_int rfl rfl rfl) ?_
  refine sq_r (ry_move rfl) ?_
  refine sq_gf rfl rfl rfl (fun hg => (Ry.yl (ry_move rfl))) ?_
  refine sq_gf rfl rfl rfl (fun hg => (Ry.yl (ry_int (ev_c hg rfl) rfl rfl))) ?_
  refine sq_r (ry_or rfl rfl rfl) ?_
  refine sq_nil ?_
  refine ex_then ?_
  refine cw_cond rfl (fun h0 => ?_) (fun h0 => ?_)
  · try simp only [Bool.and_eq_true, Bool.or_eq_true, Bool.and_eq_false_iff, Bool.or_eq_false_iff, Bool.not_eq_true', Bool.not_eq_false', decide_eq_true_eq, decide_eq_false_iff_not, Bool.not_eq_true, Bool.not_eq_false] at h0
    exfalso; omega
  · try simp only [Bool.and_eq_true, Bool.or_eq_true, Bool.and_eq_false_iff, Bool.or_eq_false_iff, Bool.not_eq_true', Bool.not_eq_false', decide_eq_true_eq, decide_eq_false_iff_not, Bool.not_eq_true, Bool.not_eq_false] at h0
    refine cw_skip ?_
    refine ex_then ?_
    refine cw_seq ?_
    refine cw_region ?_
    refine sq_r (ry_move rfl) ?_
    refine sq_makeS (enc := benc) (n := many) (cap := many) 0 rfl rfl rfl rfl rfl (by omega) (by omega) (by omega) fun b14 => ?_
    refine sq_r (ry_assign rfl) ?_
    refine sq_nil ?_
    refine ex_then ?_
    refine cw_seq ?_
    refine cw_seq ?_
    refine cw_region ?_
    refine sq_r (ry_move rfl) ?_
    refine sq_r (Ry.to (v' := .int .i64 (many : Nat)) (ry_lenH rfl) (by simp)) ?_
    refine sq_r (ry_move rfl) ?_
    refine sq_nil ?_
    refine ex_then ?_
    refine cw_block ?_
    refine cw_loop (X := Nat) (fun zz => [(17, .int .i64 (zz : Nat)), (5, (⟨false, b14, 0, many, many, none⟩ : Sv).val), (0, .int .u64 (n : Nat)), (1, .int .i64 (many : Nat)), (16, .int .i64 (many : Nat))]) (fun zz => [own benc 1 ⟨false, b14, 0, many, many, none⟩ (List.replicate (many - zz) (0 : UInt8) ++ be n zz)]) (fun zz => zz ≤ many) (fun zz => many - zz) 0 (Nat.zero_le _) (Sub.cons rfl (Sub.cons rfl (Sub.cons rfl (Sub.cons rfl (Sub.cons rfl (Sub.nil _)))))) (fun w hw => by rw [show List.replicate (many - 0) (0 : UInt8) ++ be n 0 = List.replicate many 0 from by rw [be, List.append_nil, Nat.sub_zero]]; exact Keep.mem hw) ?_
    rintro i hi
    have hbl := be_length n i
    have hxl : (List.replicate (many - i) (0 : UInt8) ++ be n i).length = many := by rw [List.length_append, List.length_replicate, hbl]; omega
    refine cw_seq ?_
    refine cw_region ?_
    refine sq_r (ry_int rfl rfl rfl) ?_
    refine sq_nil ?_
    refine ex_then ?_
    refine cw_seq ?_
    refine cw_cond rfl (fun h1 => ?_) (fun h1 => ?_)
    · try simp only [Bool.and_eq_true, Bool.or_eq_true, Bool.and_eq_false_iff, Bool.or_eq_false_iff, Bool.not_eq_true', Bool.not_eq_false', decide_eq_true_eq, decide_eq_false_iff_not, Bool.not_eq_true, Bool.not_eq_false] at h1
      refine cw_skip ?_
      refine ex_then ?_
      refine cw_seq ?_
      refine cw_block ?_
      refine cw_seq ?_
      refine cw_region ?_
      refine sq_r (ry_move rfl) ?_
      refine sq_r (ry_assign rfl) ?_
      refine sq_nil ?_
      refine ex_then ?_
      refine cw_region ?_
      refine sq_r (ry_move rfl) ?_
      refine sq_r (ry_move rfl) ?_
      refine sq_r (ry_sub rfl rfl (by omega)) ?_
      refine sq_r (ry_move rfl) ?_
      refine sq_r (ry_sub rfl rfl (by omega)) ?_
      refine sq_r (ry_move rfl) ?_
      refine sq_r (ry_move rfl) ?_
      refine sq_r (ry_mul rfl rfl (by omega)) ?_
      refine sq_r (Ry.to (v' := .int .u64 ((n / 256 ^ i : Nat) : Int)) (ry_shr (p := n) rfl rfl (by simp only [nb]; omega) (by omega)) (by rw [show (8 * (i : Int)).toNat = 8 * i by omega, Nat.pow_mul])) ?_
      refine sq_r (ry_conv8 rfl rfl) ?_
      refine sq_r (ry_idxH rfl rfl (many - 1 - i) (by omega) (by omega)) ?_
      refine sq_stU rfl rfl (by rw [List.getElem?_append_left (by rw [List.length_replicate]; omega), List.getElem?_replicate, if_pos (by omega)]) rfl ?_
      refine sq_nil ?_
      refine ex_block ?_
      refine ex_then ?_
      refine cw_region ?_
      refine sq_r (ry_add rfl rfl (by omega)) ?_
      refine sq_r (ry_move rfl) ?_
      refine sq_nil ?_
      exact ex_again (x := (i)) (i + 1) (by first | omega | (simp only []; omega)) (by first | omega | (simp only []; omega)) (Sub.cons rfl (Sub.cons rfl (Sub.cons rfl (Sub.cons rfl (Sub.cons rfl (Sub.nil _)))))) (fun w hw => by rw [be_fill (by omega)] at hw; exact Keep.mem hw)
    · try simp only [Bool.and_eq_true, Bool.or_eq_true, Bool.and_eq_false_iff, Bool.or_eq_false_iff, Bool.not_eq_true', Bool.not_eq_false', decide_eq_true_eq, decide_eq_false_iff_not, Bool.not_eq_true, Bool.not_eq_false] at h1
      have him : i = many := by omega
      refine cw_exit ?_
      refine ex_pass_exit ?_
      refine ex_pass_exit ?_
      refine ex_block_hit ?_
      refine ex_then ?_
      refine cw_seq ?_
      refine cw_region ?_
      refine sq_r (ry_move rfl) ?_
      refine sq_r (ry_assign rfl) ?_
      refine sq_nil ?_
      refine ex_then ?_
      refine cw_ret ?_
      refine ex_ret (.inl rfl) (res_1 rfl (rv_tmp rfl)) (fun w1 hw => ?_)
      exact ⟨⟨false, b14, 0, many, many, none⟩, rfl, trivial, by rw [him, Nat.sub_self, List.replicate_zero, List.nil_append] at hw; exact Keep.mem hw⟩
instance sumPut_i {w0 : World} {L : List Ent} {n : Nat} {many : Nat}  : FnC Try.prog 100 w0 L [.int .u64 (n : Nat), .int .i64 (many : Nat)] (Sv) (fun zz => zz.val) (fun zz => own benc 1 zz (be n many) :: L) (fun zz => True) (n < 2 ^ 64 ∧ 1 ≤ many ∧ many ≤ 8) := ⟨fun hp w hw => (sumPut_c w n many  hp).mono fun e w' ⟨x, h1, h2, h3⟩ => ⟨x, h1, h2, hw.call h3⟩⟩
set_option maxRecDepth 20000 in
theorem sumGet_c (w : World) (b : Sv) (bs : List UInt8) (hb : Lies benc 1 (hp w) b bs) (hpre : bs.length ≤ 7) : Calls Try.prog 107 #[b.val] w fun e w' => e = .returned (.int .u64 (de bs : Nat)) ∧ Mem w [] w' := by
  have ghb : Gv w b benc 1 bs := ⟨hb⟩
  refine calls_of (args := [_]) Try.func107 rfl Try.ntmps107 rfl ?_
  change Cw _ _ _ _ _ [(0, b.val)] []
  refine cw_seq ?_
  refine cw_region ?_
  refine sq_r (ry_assign rfl) ?_
  refine sq_nil ?_
  refine ex_then ?_
  refine cw_seq ?_
  refine cw_region ?_
  refine sq_r (ry_assign rfl) ?_
  refine sq_nil ?_
  refine ex_then ?_
  refine cw_seq ?_
  refine cw_seq ?_
  refine cw_region ?_
  refine sq_r (ry_move rfl) ?_
  refine sq_r (ry_lenH rfl) ?_
  refine sq_r (ry_move rfl) ?_
  refine sq_nil ?_
  refine ex_then ?_
  refine cw_block ?_
  refine cw_loop (X := Nat) (fun zz => [(8, .int .i64 (zz : Nat)), (3, .int .u64 (de (bs.take zz) : Nat)), (6, b.val), (7, .int .i64 (bs.length : Nat))]) (fun zz => []) (fun zz => zz ≤ bs.length) (fun zz => bs.length - zz) 0 (Nat.zero_le _) (Sub.cons rfl (Sub.cons rfl (Sub.cons rfl (Sub.cons rfl (Sub.nil _))))) (fun w hw => Keep.mem hw) ?_
  rintro i hi
  refine cw_seq ?_
  refine cw_region ?_
  refine sq_r (ry_int rfl rfl rfl) ?_
  refine sq_nil ?_
  refine ex_then ?_
  refine cw_seq ?_
  refine cw_cond rfl (fun h0 => ?_) (fun h0 => ?_)
  · try simp only [Bool.and_eq_true, Bool.or_eq_true, Bool.and_eq_false_iff, Bool.or_eq_false_iff, Bool.not_eq_true', Bool.not_eq_false', decide_eq_true_eq, decide_eq_false_iff_not, Bool.not_eq_true, Bool.not_eq_false] at h0
    obtain ⟨y, he⟩ := get_some (xs := bs) (i := i) (by omega)
    have hy := y.toNat_lt
    have hlt : de (bs.take i) < 256 ^ 6 := Nat.lt_of_lt_of_le (de_lt bs i hi) (Nat.pow_le_pow_right (by decide) (by omega))
    refine cw_skip ?_
    refine ex_then ?_
    refine cw_seq ?_
    refine cw_block ?_
    refine cw_seq ?_
    refine cw_region ?_
    refine sq_r (ry_idxH rfl rfl i rfl (by omega)) ?_
    refine sq_r (ry_elemcH (j := 0) rfl i he rfl (by decide)) ?_
    refine sq_r (ry_assign rfl) ?_
    refine sq_nil ?_
    refine ex_then ?_
    refine cw_region ?_
    refine sq_r (ry_move rfl) ?_
    refine sq_r (ry_shl64 (p := de (bs.take i)) rfl rfl rfl (by omega)) ?_
    refine sq_r (ry_move rfl) ?_
    refine sq_r (ry_convn rfl (by simp only [nb]; omega)) ?_
    refine sq_r (ry_bor (p := de (bs.take i) * 256) (q := y.toNat) rfl rfl rfl rfl (by simp only [nb]; omega) (by simp only [nb]; omega)) ?_
    refine sq_r (ry_assign rfl) ?_
    refine sq_nil ?_
    refine ex_block ?_
    refine ex_then ?_
    refine cw_region ?_
    refine sq_r (ry_add rfl rfl (by omega)) ?_
    refine sq_r (ry_move rfl) ?_
    refine sq_nil ?_
    exact ex_again (x := (i)) (i + 1) (by first | omega | (simp only []; omega)) (by first | omega | (simp only []; omega)) (Sub.cons rfl (Sub.cons (look_eq rfl (by rw [de_succ he, or_low _ _ hy])) (Sub.cons rfl (Sub.cons rfl (Sub.nil _))))) (fun w hw => Keep.mem hw)
  · try simp only [Bool.and_eq_true, Bool.or_eq_true, Bool.and_eq_false_iff, Bool.or_eq_false_iff, Bool.not_eq_true', Bool.not_eq_false', decide_eq_true_eq, decide_eq_false_iff_not, Bool.not_eq_true, Bool.not_eq_false] at h0
    obtain rfl : i = bs.length := by omega
    refine cw_exit ?_
    refine ex_pass_exit ?_
    refine ex_pass_exit ?_
    refine ex_block_hit ?_
    refine ex_then ?_
    refine cw_seq ?_
    refine cw_region ?_
    refine sq_r (ry_move rfl) ?_
    refine sq_r (ry_assign rfl) ?_
    refine sq_nil ?_
    refine ex_then ?_
    refine cw_ret ?_
    refine ex_ret (.inl rfl) (res_1 rfl (rv_tmp rfl)) (fun w1 hw => ?_)
    exact ⟨(by rw [List.take_length]), Keep.mem hw⟩
instance sumGet_i {w0 : World} {L : List Ent} {b : Sv} {bs : List UInt8} [hb : HdE w0 L benc 1 b bs] : FnQ Try.prog 107 w0 L [b.val] (.int .u64 (de bs : Nat)) (bs.length ≤ 7) := ⟨fun hp w hw => sumGet_c w b bs (hb.h w hw) hp⟩
set_option maxRecDepth 20000 in
theorem refOf_c (w : World) (b : Sv) (bs : List UInt8) (hb : Lies benc 1 (hp w) b bs) : Calls Try.prog 139 #[b.val] w fun e w' => e = .returned (.int .u32 (crc bs : Nat)) ∧ Mem w [] w' := by
  have ghb : Gv w b benc 1 bs := ⟨hb⟩
  have hbd := hb.bd
  refine calls_of (args := [_]) Try.func139 rfl Try.ntmps139 rfl ?_
  change Cw _ _ _ _ _ [(0, b.val)] []
  refine cw_seq ?_
  refine cw_region ?_
  refine sq_r (ry_assign rfl) ?_
  refine sq_nil ?_
  refine ex_then ?_
  refine cw_seq ?_
  refine cw_region ?_
  refine sq_r (ry_assign rfl) ?_
  refine sq_nil ?_
  refine ex_then ?_
  refine cw_seq ?_
  refine cw_seq ?_
  refine cw_region ?_
  refine sq_r (ry_assign rfl) ?_
  refine sq_nil ?_
  refine ex_then ?_
  refine cw_block ?_
  refine cw_loop (X := Nat) (fun zz => [(4, .int .i64 (zz : Nat)), (3, .int .u32 (crcS 4294967295 (bs.take zz) : Nat)), (0, b.val)]) (fun zz => []) (fun zz => zz ≤ bs.length) (fun zz => bs.length - zz) 0 (Nat.zero_le _) (Sub.cons rfl (Sub.cons rfl (Sub.cons rfl (Sub.nil _)))) (fun w hw => Keep.mem hw) ?_
  rintro i hi
  have hlt : crcS 4294967295 (bs.take i) < 2 ^ 32 := crcS_lt (by decide) _
  refine cw_seq ?_
  refine cw_seq ?_
  refine cw_region ?_
  refine sq_r (ry_move rfl) ?_
  refine sq_r (ry_move rfl) ?_
  refine sq_r (ry_lenH rfl) ?_
  refine sq_r (ry_int rfl rfl rfl) ?_
  refine sq_nil ?_
  refine ex_then ?_
  refine cw_cond rfl (fun h0 => ?_) (fun h0 => ?_)
  · try simp only [Bool.and_eq_true, Bool.or_eq_true, Bool.and_eq_false_iff, Bool.or_eq_false_iff, Bool.not_eq_true', Bool.not_eq_false', decide_eq_true_eq, decide_eq_false_iff_not, Bool.not_eq_true, Bool.not_eq_false] at h0
    obtain ⟨y, he⟩ := get_some (xs := bs) (i := i) (by omega)
    have hy := y.toNat_lt
    have hx0 : crcS 4294967295 (bs.take i) ^^^ y.toNat < 2 ^ 32 := Nat.xor_lt_two_pow (crcS_lt (by decide) _) (by omega)
    refine cw_skip ?_
    refine ex_then ?_
    refine cw_seq ?_
    refine cw_block ?_
    refine cw_seq ?_
    refine cw_region ?_
    refine sq_r (ry_move rfl) ?_
    refine sq_r (ry_move rfl) ?_
    refine sq_r (ry_move rfl) ?_
    refine sq_r (ry_idxH rfl rfl i rfl (by omega)) ?_
    refine sq_r (ry_elemcH (j := 0) rfl i he rfl (by decide)) ?_
    refine sq_r (ry_convn rfl (by simp only [nb]; omega)) ?_
    refine sq_r (ry_bxor rfl rfl rfl rfl (by simp only [nb]; omega) (by simp only [nb]; omega)) ?_
    refine sq_r (ry_assign rfl) ?_
    refine sq_nil ?_
    refine ex_then ?_
    refine cw_seq ?_
    refine cw_region ?_
    refine sq_r (ry_assign rfl) ?_
    refine sq_nil ?_
    refine ex_then ?_
    refine cw_block ?_
    refine cw_loop (X := Nat) (fun zz => [(5, .int .i64 (zz : Nat)), (3, .int .u32 ((crcN (crcS 4294967295 (bs.take i) ^^^ y.toNat) zz) : Nat)), (0, b.val), (4, .int .i64 (i : Nat))]) (fun zz => []) (fun zz => zz ≤ 8) (fun zz => 8 - zz) 0 (Nat.zero_le _) (Sub.cons rfl (Sub.cons rfl (Sub.cons rfl (Sub.cons rfl (Sub.nil _))))) (fun w hw => Keep.mem hw) ?_
    rintro k hk
    refine cw_seq ?_
    refine cw_seq ?_
    refine cw_region ?_
    refine sq_r (ry_move rfl) ?_
    refine sq_r (ry_int rfl rfl rfl) ?_
    refine sq_nil ?_
    refine ex_then ?_
    refine cw_cond rfl (fun h1 => ?_) (fun h1 => ?_)
    · try simp only [Bool.and_eq_true, Bool.or_eq_true, Bool.and_eq_false_iff, Bool.or_eq_false_iff, Bool.not_eq_true', Bool.not_eq_false', decide_eq_true_eq, decide_eq_false_iff_not, Bool.not_eq_true, Bool.not_eq_false] at h1
      have hk0 : (crcN (crcS 4294967295 (bs.take i) ^^^ y.toNat) k) < 2 ^ 32 := crcN_lt hx0 k
      have hk1 : (crcN (crcS 4294967295 (bs.take i) ^^^ y.toNat) k) / 2 < 2 ^ 32 := by omega
      refine cw_skip ?_
      refine ex_then ?_
      refine cw_seq ?_
      refine cw_block ?_
      refine cw_seq ?_
      refine cw_region ?_
      refine sq_r (ry_move rfl) ?_
      refine sq_r (ry_remn (p := (crcN (crcS 4294967295 (bs.take i) ^^^ y.toNat) k)) (q := 2) rfl rfl rfl rfl (by decide)) ?_
      refine sq_r (ry_int rfl rfl rfl) ?_
      refine sq_r (ry_assign rfl) ?_
      refine sq_nil ?_
      refine ex_then ?_
      refine cw_seq ?_
      refine cw_region ?_
      refine sq_r (ry_move rfl) ?_
      refine sq_r (ry_quon (p := (crcN (crcS 4294967295 (bs.take i) ^^^ y.toNat) k)) (q := 2) rfl rfl rfl rfl (by simp only [nb]; omega) (by decide)) ?_
      refine sq_r (ry_assign rfl) ?_
      refine sq_nil ?_
      refine ex_then ?_
      refine cw_seq ?_
      refine cw_region ?_
      refine sq_r (ry_move rfl) ?_
      refine sq_nil ?_
      refine ex_then ?_
      refine cw_cond rfl (fun h2 => ?_) (fun h2 => ?_)
      · try simp only [Bool.and_eq_true, Bool.or_eq_true, Bool.and_eq_false_iff, Bool.or_eq_false_iff, Bool.not_eq_true', Bool.not_eq_false', decide_eq_true_eq, decide_eq_false_iff_not, Bool.not_eq_true, Bool.not_eq_false] at h2
        have hod : (crcN (crcS 4294967295 (bs.take i) ^^^ y.toNat) k) % 2 = 1 := by omega
        refine cw_region ?_
        refine sq_r (ry_move rfl) ?_
        refine sq_r (ry_bxor (p := (crcN (crcS 4294967295 (bs.take i) ^^^ y.toNat) k) / 2) (q := 3988292384) rfl rfl rfl rfl (by simp only [nb]; omega) (by decide)) ?_
        refine sq_r (ry_assign rfl) ?_
        refine sq_nil ?_
        refine ex_block ?_
        refine ex_then ?_
        refine cw_region ?_
        refine sq_r (ry_move rfl) ?_
        refine sq_r (ry_add rfl rfl (by omega)) ?_
        refine sq_r (ry_assign rfl) ?_
        refine sq_nil ?_
        exact ex_again (x := (k)) (k + 1) (by first | omega | (simp only []; omega)) (by first | omega | (simp only []; omega)) (Sub.cons rfl (Sub.cons (look_eq rfl (by rw [crcN, crcT, if_pos hod]; rfl)) (Sub.cons rfl (Sub.cons rfl (Sub.nil _))))) (fun w hw => Keep.mem hw)
      · try simp only [Bool.and_eq_true, Bool.or_eq_true, Bool.and_eq_false_iff, Bool.or_eq_false_iff, Bool.not_eq_true', Bool.not_eq_false', decide_eq_true_eq, decide_eq_false_iff_not, Bool.not_eq_true, Bool.not_eq_false] at h2
        have hod : ¬ (crcN (crcS 4294967295 (bs.take i) ^^^ y.toNat) k) % 2 = 1 := by omega
        refine cw_skip ?_
        refine ex_block ?_
        refine ex_then ?_
        refine cw_region ?_
        refine sq_r (ry_move rfl) ?_
        refine sq_r (ry_add rfl rfl (by omega)) ?_
        refine sq_r (ry_assign rfl) ?_
        refine sq_nil ?_
        exact ex_again (x := (k)) (k + 1) (by first | omega | (simp only []; omega)) (by first | omega | (simp only []; omega)) (Sub.cons rfl (Sub.cons (look_eq rfl (by rw [crcN, crcT, if_neg hod, Nat.xor_zero])) (Sub.cons rfl (Sub.cons rfl (Sub.nil _))))) (fun w hw => Keep.mem hw)
    · try simp only [Bool.and_eq_true, Bool.or_eq_true, Bool.and_eq_false_iff, Bool.or_eq_false_iff, Bool.not_eq_true', Bool.not_eq_false', decide_eq_true_eq, decide_eq_false_iff_not, Bool.not_eq_true, Bool.not_eq_false] at h1
      obtain rfl : k = 8 := by omega
      refine cw_exit ?_
      refine ex_pass_exit ?_
      refine ex_pass_exit ?_
      refine ex_block_hit ?_
      refine ex_block ?_
      refine ex_then ?_
      refine cw_region ?_
      refine sq_r (ry_move rfl) ?_
      refine sq_r (ry_add rfl rfl (by omega)) ?_
      refine sq_r (ry_assign rfl) ?_
      refine sq_nil ?_
      exact ex_again (x := (i)) (i + 1) (by first | omega | (simp only []; omega)) (by first | omega | (simp only []; omega)) (Sub.cons rfl (Sub.cons (look_eq rfl (by rw [crcS_snoc he]; rfl)) (Sub.cons rfl (Sub.nil _)))) (fun w hw => Keep.mem hw)
  · try simp only [Bool.and_eq_true, Bool.or_eq_true, Bool.and_eq_false_iff, Bool.or_eq_false_iff, Bool.not_eq_true', Bool.not_eq_false', decide_eq_true_eq, decide_eq_false_iff_not, Bool.not_eq_true, Bool.not_eq_false] at h0
    obtain rfl : i = bs.length := by omega
    have hlt0 : crcS 4294967295 (bs.take bs.length) < 2 ^ 32 := crcS_lt (by decide) _
    refine cw_exit ?_
    refine ex_pass_exit ?_
    refine ex_pass_exit ?_
    refine ex_block_hit ?_
    refine ex_then ?_
    refine cw_seq ?_
    refine cw_region ?_
    refine sq_r (ry_move rfl) ?_
    refine sq_r (Ry.to (v' := .int .u32 ((4294967295 - crcS 4294967295 (bs.take bs.length) : Nat) : Int)) (ry_int rfl rfl rfl) (by rw [show (4294967295 : Int) - ((crcS 4294967295 (bs.take bs.length) : Nat) : Int) = ((4294967295 - crcS 4294967295 (bs.take bs.length) : Nat) : Int) by omega, wrap_nat (k := .u32) (by simp only [nb]; omega)])) ?_
    refine sq_r (ry_assign rfl) ?_
    refine sq_nil ?_
    refine ex_then ?_
    refine cw_ret ?_
    refine ex_ret (.inl rfl) (res_1 rfl (rv_tmp rfl)) (fun w1 hw => ?_)
    exact ⟨(by rw [List.take_length]; rfl), Keep.mem hw⟩
instance refOf_i {w0 : World} {L : List Ent} {b : Sv} {bs : List UInt8} [hb : HdE w0 L benc 1 b bs] : FnQ Try.prog 139 w0 L [b.val] (.int .u32 (crc bs : Nat)) (True) := ⟨fun hp w hw => refOf_c w b bs (hb.h w hw)⟩

end Go.Proofs.Ytajhlgdapiihgaa

/- Bytes one behind the other: walked. -/
set_option linter.unusedSimpArgs false
set_option linter.unusedVariables false
namespace Go.Proofs.Ytajhlgdapiihgaa
open Go.Eng Go.Kb
set_option maxRecDepth 20000 in
theorem growN_c (w : World) (n : Nat)  (hpre : n ≤ 1000000000) : Calls Try.prog 141 #[.slice none 0 0, .int .i64 (n : Nat)] w fun e w' => ∃ zz : Sv, e = .returned (zz.val) ∧ (True) ∧ Mem w [own benc 1 zz ([] : List UInt8)] w' := by
  refine calls_of (args := [_, _]) Try.func141 rfl Try.ntmps141 rfl ?_
  change Cw _ _ _ _ _ [(0, .slice none 0 0), (1, .int .i64 (n : Nat))] []
  refine cw_seq ?_
  refine cw_region ?_
  refine sq_r (ry_assign rfl) ?_
  refine sq_nil ?_
  refine ex_then ?_
  refine cw_seq ?_
  refine cw_seq ?_
  refine cw_region ?_
  refine sq_r (ry_move rfl) ?_
  refine sq_r (ry_int rfl rfl rfl) ?_
  refine sq_nil ?_
  refine ex_then ?_
  refine cw_cond rfl (fun h0 => ?_) (fun h0 => ?_)
  · try simp only [Bool.and_eq_true, Bool.or_eq_true, Bool.and_eq_false_iff, Bool.or_eq_false_iff, Bool.not_eq_true', Bool.not_eq_false', decide_eq_true_eq, decide_eq_false_iff_not, Bool.not_eq_true, Bool.not_eq_false] at h0
    exfalso; omega
  · try simp only [Bool.and_eq_true, Bool.or_eq_true, Bool.and_eq_false_iff, Bool.or_eq_false_iff, Bool.not_eq_true', Bool.not_eq_false', decide_eq_true_eq, decide_eq_false_iff_not, Bool.not_eq_true, Bool.not_eq_false] at h0
    refine cw_skip ?_
    refine ex_then ?_
    refine cw_seq ?_
    refine cw_seq ?_
    refine cw_region ?_
    refine sq_r (ry_move rfl) ?_
    refine sq_r (ry_move rfl) ?_
    refine sq_r (ry_capN rfl) ?_
    refine sq_r (ry_move rfl) ?_
    refine sq_r (ry_len_slice rfl) ?_
    refine sq_r (ry_sub rfl rfl (by omega)) ?_
    refine sq_r (ry_sub rfl rfl (by omega)) ?_
    refine sq_r (ry_assign rfl) ?_
    refine sq_nil ?_
    refine ex_then ?_
    refine cw_seq ?_
    refine cw_region ?_
    refine sq_r (ry_move rfl) ?_
    refine sq_r (ry_int rfl rfl rfl) ?_
    refine sq_nil ?_
    refine ex_then ?_
    refine cw_cond rfl (fun h1 => ?_) (fun h1 => ?_)
    · try simp only [Bool.and_eq_true, Bool.or_eq_true, Bool.and_eq_false_iff, Bool.or_eq_false_iff, Bool.not_eq_true', Bool.not_eq_false', decide_eq_true_eq, decide_eq_false_iff_not, Bool.not_eq_true, Bool.not_eq_false] at h1
      refine cw_region ?_
      refine sq_r (ry_move rfl) ?_
      refine sq_r (ry_move rfl) ?_
      refine sq_r (ry_capN rfl) ?_
      refine sq_r (Ry.to (v' := .slice none 0 0) (ry_subS_hi (s := Sv.none) (h := 0) rfl rfl rfl Sv.none_ok (Nat.le_refl _)) rfl) ?_
      refine sq_r (ry_move rfl) ?_
      refine sq_appendN (enc := benc) (k := n) (0 : UInt8) rfl rfl (by omega) (by omega) (by decide) rfl Try.underlying3 (by omega) (by omega) fun b22 C22 hC22 => ?_
      refine sq_r (ry_move rfl) ?_
      refine sq_r (ry_len_slice rfl) ?_
      refine sq_r (ry_subS_hi (s := ⟨false, b22, 0, n, C22, none⟩) (h := 0) rfl rfl rfl ⟨(fun h => by cases h), hC22, by simp only; omega, fun _ => rfl⟩ (Nat.zero_le _)) ?_
      refine sq_r (ry_assign rfl) ?_
      refine sq_nil ?_
      refine ex_then ?_
      refine cw_seq ?_
      refine cw_region ?_
      refine sq_r (ry_move rfl) ?_
      refine sq_r (ry_assign rfl) ?_
      refine sq_nil ?_
      refine ex_then ?_
      refine cw_ret ?_
      refine ex_ret (.inl rfl) (res_1 rfl (rv_tmp rfl)) (fun w1 hw => ?_)
      refine ⟨Sv.sub ⟨false, b22, 0, n, C22, none⟩ 1 0 0, rfl, trivial, ?_⟩
      have hw2 := Mem.ownTake (i := 0) (k := 0) hw rfl (Nat.zero_le _)
      rw [List.take_zero] at hw2
      exact hw2
    · try simp only [Bool.and_eq_true, Bool.or_eq_true, Bool.and_eq_false_iff, Bool.or_eq_false_iff, Bool.not_eq_true', Bool.not_eq_false', decide_eq_true_eq, decide_eq_false_iff_not, Bool.not_eq_true, Bool.not_eq_false] at h1
      have hn : n = 0 := by omega
      refine cw_skip ?_
      refine ex_then ?_
      refine cw_seq ?_
      refine cw_region ?_
      refine sq_r (ry_move rfl) ?_
      refine sq_r (ry_assign rfl) ?_
      refine sq_nil ?_
      refine ex_then ?_
      refine cw_ret ?_
      refine ex_ret (.inl rfl) (res_1 rfl (rv_tmp rfl)) (fun w1 hw => ?_)
      exact ⟨Sv.none, rfl, trivial, (Keep.mem hw : Mem w [] _).nilOwn benc 1⟩
instance growN_i {w0 : World} {L : List Ent} {n : Nat}  : FnC Try.prog 141 w0 L [.slice none 0 0, .int .i64 (n : Nat)] (Sv) (fun zz => zz.val) (fun zz => own benc 1 zz ([] : List UInt8) :: L) (fun zz => True) (n ≤ 1000000000) := ⟨fun hp w hw => (growN_c w n  hp).mono fun e w' ⟨x, h1, h2, h3⟩ => ⟨x, h1, h2, hw.call h3⟩⟩
set_option maxRecDepth 20000 in
theorem concatB_c (w : World) (a : Sl (Sl UInt8)) (ha : Deep.good (hp w) a) (hpre : (flatB a.xs).length ≤ 1000000) : Calls Try.prog 112 #[a.sv.val] w fun e w' => ∃ zz : Sv, e = .returned (zz.val) ∧ (True) ∧ Mem w [own benc 1 zz (flatB a.xs)] w' := by
  have gha : GvD w a := ⟨ha⟩
  have hab := ha.1.bd
  have hfl := flatB_le a.xs
  refine calls_of (args := [_]) Try.func112 rfl Try.ntmps112 rfl ?_
  change Cw _ _ _ _ _ [(0, a.sv.val)] []
  refine cw_seq ?_
  refine cw_region ?_
  refine sq_r (ry_assign rfl) ?_
  refine sq_nil ?_
  refine ex_then ?_
  refine cw_seq ?_
  refine cw_region ?_
  refine sq_r (ry_assign rfl) ?_
  refine sq_nil ?_
  refine ex_then ?_
  refine cw_seq ?_
  refine cw_seq ?_
  refine cw_region ?_
  refine sq_r (ry_move rfl) ?_
  refine sq_r (ry_lenH rfl) ?_
  refine sq_r (ry_move rfl) ?_
  refine sq_nil ?_
  refine ex_then ?_
  refine cw_block ?_
  refine cw_loop (X := Nat) (fun zz => [(11, .int .i64 (zz : Nat)), (3, .int .i64 ((flatB (a.xs.take zz)).length : Nat)), (0, a.sv.val), (9, a.sv.val), (10, .int .i64 (a.xs.length : Nat))]) (fun zz => []) (fun zz => zz ≤ a.xs.length) (fun zz => a.xs.length - zz) 0 (Nat.zero_le _) (Sub.cons rfl (Sub.cons rfl (Sub.cons rfl (Sub.cons rfl (Sub.cons rfl (Sub.nil _)))))) (fun w hw => Keep.mem hw) ?_
  rintro i hi
  have hf1 := hfl i
  have hf2 := hfl (i + 1)
  refine cw_seq ?_
  refine cw_region ?_
  refine sq_r (ry_int rfl rfl rfl) ?_
  refine sq_nil ?_
  refine ex_then ?_
  refine cw_seq ?_
  refine cw_cond rfl (fun h0 => ?_) (fun h0 => ?_)
  · try simp only [Bool.and_eq_true, Bool.or_eq_true, Bool.and_eq_false_iff, Bool.or_eq_false_iff, Bool.not_eq_true', Bool.not_eq_false', decide_eq_true_eq, decide_eq_false_iff_not, Bool.not_eq_true, Bool.not_eq_false] at h0
    refine cw_skip ?_
    refine ex_then ?_
    refine cw_seq ?_
    refine cw_block ?_
    refine cw_seq ?_
    refine cw_region ?_
    obtain ⟨x, hx⟩ := get_some (xs := a.xs) (i := i) (by omega)
    refine sq_r (ry_idxH rfl rfl i rfl (by omega)) ?_
    refine sq_r (ry_elemcH (j := 0) rfl i hx rfl (by decide)) ?_
    have hfx : (flatB (a.xs.take (i + 1))).length = (flatB (a.xs.take i)).length + x.xs.length := by rw [flatB_snoc hx, List.length_append]
    have mb14 : Mb x _ := ⟨List.mem_of_getElem? hx⟩
    refine sq_r (ry_assign rfl) ?_
    refine sq_nil ?_
    refine ex_then ?_
    refine cw_seq ?_
    refine cw_region ?_
    refine sq_r (ry_move rfl) ?_
    refine sq_r (ry_move rfl) ?_
    refine sq_r (ry_lenH rfl) ?_
    refine sq_r (ry_add rfl rfl (by omega)) ?_
    refine sq_r (ry_assign rfl) ?_
    refine sq_nil ?_
    refine ex_then ?_
    refine cw_seq ?_
    refine cw_region ?_
    refine sq_r (ry_move rfl) ?_
    refine sq_r (ry_int rfl rfl rfl) ?_
    refine sq_nil ?_
    refine ex_then ?_
    refine cw_cond rfl (fun h1 => ?_) (fun h1 => ?_)
    · try simp only [Bool.and_eq_true, Bool.or_eq_true, Bool.and_eq_false_iff, Bool.or_eq_false_iff, Bool.not_eq_true', Bool.not_eq_false', decide_eq_true_eq, decide_eq_false_iff_not, Bool.not_eq_true, Bool.not_eq_false] at h1
      exfalso; omega
    · try simp only [Bool.and_eq_true, Bool.or_eq_true, Bool.and_eq_false_iff, Bool.or_eq_false_iff, Bool.not_eq_true', Bool.not_eq_false', decide_eq_true_eq, decide_eq_false_iff_not, Bool.not_eq_true, Bool.not_eq_false] at h1
      refine cw_skip ?_
      refine ex_block ?_
      refine ex_then ?_
      refine cw_region ?_
      refine sq_r (ry_add rfl rfl (by omega)) ?_
      refine sq_r (ry_move rfl) ?_
      refine sq_nil ?_
      exact ex_again (x := (i)) (i + 1) (by first | omega | (simp only []; omega)) (by first | omega | (simp only []; omega)) (Sub.cons rfl (Sub.cons (look_eq rfl (by rw [flatB_snoc hx, List.length_append]; simp)) (Sub.cons rfl (Sub.cons rfl (Sub.cons rfl (Sub.nil _)))))) (fun w hw => Keep.mem hw)
  · try simp only [Bool.and_eq_true, Bool.or_eq_true, Bool.and_eq_false_iff, Bool.or_eq_false_iff, Bool.not_eq_true', Bool.not_eq_false', decide_eq_true_eq, decide_eq_false_iff_not, Bool.not_eq_true, Bool.not_eq_false] at h0
    obtain rfl : i = a.xs.length := by omega
    have hf0 := hfl a.xs.length
    refine cw_exit ?_
    refine ex_pass_exit ?_
    refine ex_pass_exit ?_
    refine ex_block_hit ?_
    refine ex_then ?_
    refine cw_seq ?_
    refine cw_region ?_
    refine sq_r (ry_move rfl) ?_
    refine sq_callC rfl (by omega) fun x24 hp24 => ?_
    refine sq_r (ry_assign rfl) ?_
    refine sq_nil ?_
    refine ex_then ?_
    refine cw_seq ?_
    refine cw_seq ?_
    refine cw_region ?_
    refine sq_r (ry_move rfl) ?_
    refine sq_r (ry_lenH rfl) ?_
    refine sq_r (ry_move rfl) ?_
    refine sq_nil ?_
    refine ex_then ?_
    refine cw_block ?_
    refine cw_loop (X := Nat × Sv) (fun zz => [(27, .int .i64 (zz.1 : Nat)), (6, zz.2.val), (25, a.sv.val), (26, .int .i64 (a.xs.length : Nat))]) (fun zz => [own benc 1 zz.2 (flatB (a.xs.take zz.1))]) (fun zz => zz.1 ≤ a.xs.length) (fun zz => a.xs.length - zz.1) (0, x24) (Nat.zero_le _) (Sub.cons rfl (Sub.cons rfl (Sub.cons rfl (Sub.cons rfl (Sub.nil _))))) (fun w hw => (Keep.mem hw : Mem _ [own benc 1 x24 ([] : List UInt8)] _)) ?_
    rintro ⟨k, s1⟩ hk
    dsimp only
    simp only at hk
    have hf1 := hfl k
    have hf2 := hfl (k + 1)
    refine cw_seq ?_
    refine cw_region ?_
    refine sq_r (ry_int rfl rfl rfl) ?_
    refine sq_nil ?_
    refine ex_then ?_
    refine cw_seq ?_
    refine cw_cond rfl (fun h2 => ?_) (fun h2 => ?_)
    · try simp only [Bool.and_eq_true, Bool.or_eq_true, Bool.and_eq_false_iff, Bool.or_eq_false_iff, Bool.not_eq_true', Bool.not_eq_false', decide_eq_true_eq, decide_eq_false_iff_not, Bool.not_eq_true, Bool.not_eq_false] at h2
      refine cw_skip ?_
      refine ex_then ?_
      refine cw_seq ?_
      refine cw_block ?_
      refine cw_seq ?_
      refine cw_region ?_
      obtain ⟨y, hy⟩ := get_some (xs := a.xs) (i := k) (by omega)
      refine sq_r (ry_idxH rfl rfl k rfl (by omega)) ?_
      refine sq_r (ry_elemcH (j := 0) rfl k hy rfl (by decide)) ?_
      have hfy : (flatB (a.xs.take (k + 1))).length = (flatB (a.xs.take k)).length + y.xs.length := by rw [flatB_snoc hy, List.length_append]
      have mb30 : Mb y _ := ⟨List.mem_of_getElem? hy⟩
      refine sq_r (ry_assign rfl) ?_
      refine sq_nil ?_
      refine ex_then ?_
      refine cw_region ?_
      refine sq_r (ry_move rfl) ?_
      refine sq_r (ry_move rfl) ?_
      refine sq_append (s := s1) (ys := y.xs) rfl rfl (by decide) (fun w hw => src_rows (s := y.sv) Try.underlying83 (by decide) ((inferInstance : Hd _ _ y.sv benc 1 y.xs).h w hw)) (by omega) (by omega) fun s33 hs33 hl33 => ?_
      refine sq_r (ry_assign rfl) ?_
      refine sq_nil ?_
      refine ex_block ?_
      refine ex_then ?_
      refine cw_region ?_
      refine sq_r (ry_add rfl rfl (by omega)) ?_
      refine sq_r (ry_move rfl) ?_
      refine sq_nil ?_
      exact ex_again (x := (k, s1)) (k + 1, s33) (by simp only; omega) (by simp only; omega) (Sub.cons rfl (Sub.cons rfl (Sub.cons rfl (Sub.cons rfl (Sub.nil _))))) (fun w hw => by rw [flatB_snoc hy]; exact Keep.mem hw)
    · try simp only [Bool.and_eq_true, Bool.or_eq_true, Bool.and_eq_false_iff, Bool.or_eq_false_iff, Bool.not_eq_true', Bool.not_eq_false', decide_eq_true_eq, decide_eq_false_iff_not, Bool.not_eq_true, Bool.not_eq_false] at h2
      obtain rfl : k = a.xs.length := by omega
      refine cw_exit ?_
      refine ex_pass_exit ?_
      refine ex_pass_exit ?_
      refine ex_block_hit ?_
      refine ex_then ?_
      refine cw_seq ?_
      refine cw_region ?_
      refine sq_r (ry_move rfl) ?_
      refine sq_r (ry_assign rfl) ?_
      refine sq_nil ?_
      refine ex_then ?_
      refine cw_ret ?_
      refine ex_ret (.inl rfl) (res_1 rfl (rv_tmp rfl)) (fun w1 hw => ?_)
      exact ⟨s1, rfl, trivial, by rw [List.take_length] at hw; exact Keep.mem hw⟩
instance concatB_i {w0 : World} {L : List Ent} {a : Sl (Sl UInt8)} [ha : HdD w0 L a] : FnC Try.prog 112 w0 L [a.sv.val] (Sv) (fun zz => zz.val) (fun zz => own benc 1 zz (flatB a.xs) :: L) (fun zz => True) ((flatB a.xs).length ≤ 1000000) := ⟨fun hp w hw => (concatB_c w a (ha.h w hw) hp).mono fun e w' ⟨x, h1, h2, h3⟩ => ⟨x, h1, h2, hw.call h3⟩⟩

end Go.Proofs.Ytajhlgdapiihgaa

/- Bytes with their sum: walked. -/
set_option linter.unusedSimpArgs false
set_option linter.unusedVariables false
namespace Go.Proofs.Ytajhlgdapiihgaa
open Go.Eng Go.Kb
set_option maxRecDepth 20000 in
theorem sumSealed_c (w : World) (b : Sv) (bs : List UInt8) (hb : Lies benc 1 (hp w) b bs) (hpre : bs.length ≤ 900000) : Calls Try.prog 102 #[b.val] w fun e w' => ∃ zz : Sv, e = .returned (zz.val) ∧ (True) ∧ Mem w [own benc 1 zz (sealed bs)] w' := by
  have ghb : Gv w b benc 1 bs := ⟨hb⟩
  have hcl := crc_lt bs
  refine calls_of (args := [_]) Try.func102 rfl Try.ntmps102 rfl ?_
  change Cw _ _ _ _ _ [(0, b.val)] []
  refine cw_seq ?_
  refine cw_region ?_
  refine sq_r (ry_assign rfl) ?_
  refine sq_nil ?_
  refine ex_then ?_
  refine cw_seq ?_
  refine cw_region ?_
  refine sq_r (ry_move rfl) ?_
  refine sq_r (ry_move rfl) ?_
  refine sq_y (yl_callC rfl trivial) ?_
  refine sq_r (ry_convn rfl (by simp only [nb]; omega)) ?_
  refine sq_callC (vs := [_, .int .i64 ((4 : Nat) : Int)]) rfl ⟨by omega, by omega, by omega⟩ fun x7 hp7 => ?_
  refine sq_buildSlice (enc := (scells (τ := UInt8))) [(⟨b, bs⟩ : Sl UInt8), ⟨x7, be (crc bs) 4⟩] (vals := [b.val, x7.val]) rfl (by simp only [List.map_cons, List.map_nil, Sv.cells_val]; rfl) rfl (by decide) (by decide) fun b8 => ?_
  refine sq_nameD (τ := Sl UInt8) (xs := [(⟨b, bs⟩ : Sl UInt8), ⟨x7, be (crc bs) 4⟩]) fun a8 h8 g8 => ?_
  have hf8 : flatB a8.xs = sealed bs := by rw [h8]; simp [flatB, sealed]
  have hf9 : (sealed bs).length = bs.length + 4 := by rw [sealed, List.length_append, be_length]
  refine sq_callC rfl (by rw [hf8]; omega) fun x9 hp9 => ?_
  refine sq_r (ry_assign rfl) ?_
  refine sq_nil ?_
  refine ex_then ?_
  refine cw_ret ?_
  refine ex_ret (.inl rfl) (res_1 rfl (rv_tmp rfl)) (fun w1 hw => ?_)
  exact ⟨x9, rfl, trivial, by rw [← hf8]; exact Keep.mem hw⟩
instance sumSealed_i {w0 : World} {L : List Ent} {b : Sv} {bs : List UInt8} [hb : HdE w0 L benc 1 b bs] : FnC Try.prog 102 w0 L [b.val] (Sv) (fun zz => zz.val) (fun zz => own benc 1 zz (sealed bs) :: L) (fun zz => True) (bs.length ≤ 900000) := ⟨fun hp w hw => (sumSealed_c w b bs (hb.h w hw) hp).mono fun e w' ⟨x, h1, h2, h3⟩ => ⟨x, h1, h2, hw.call h3⟩⟩
set_option maxRecDepth 20000 in
theorem cloneB_c (w : World) (s : Sv) (ss : List UInt8) (hs : Lies benc 1 (hp w) s ss) (hpre : ss.length ≤ 1000000) : Calls Try.prog 140 #[s.val] w fun e w' => ∃ zz : Sv, e = .returned (zz.val) ∧ (True) ∧ Mem w [own benc 1 zz ss] w' := by
  have ghs : Gv w s benc 1 ss := ⟨hs⟩
  refine calls_of (args := [_]) Try.func140 rfl Try.ntmps140 rfl ?_
  change Cw _ _ _ _ _ [(0, s.val)] []
  refine cw_seq ?_
  refine cw_region ?_
  refine sq_r (ry_assign rfl) ?_
  refine sq_nil ?_
  refine ex_then ?_
  refine cw_seq ?_
  refine cw_seq ?_
  refine cw_region ?_
  refine sq_r (ry_move rfl) ?_
  refine sq_r (ry_nilS Try.underlying83 rfl) ?_
  refine sq_nil ?_
  refine ex_then ?_
  refine cw_cond rfl (fun h0 => ?_) (fun h0 => ?_)
  · try simp only [Bool.and_eq_true, Bool.or_eq_true, Bool.and_eq_false_iff, Bool.or_eq_false_iff, Bool.not_eq_true', Bool.not_eq_false', decide_eq_true_eq, decide_eq_false_iff_not, Bool.not_eq_true, Bool.not_eq_false] at h0
    have e0 : ss = [] := List.length_eq_zero_iff.1 (by have := hs.ok.nil h0; have := hs.len; omega)
    refine cw_seq ?_
    refine cw_region ?_
    refine sq_r (ry_assign rfl) ?_
    refine sq_nil ?_
    refine ex_then ?_
    refine cw_ret ?_
    refine ex_pass_ret ?_
    refine ex_ret (.inl rfl) (res_1 rfl (rv_tmp rfl)) (fun w1 hw => ?_)
    exact ⟨Sv.none, rfl, trivial, by rw [e0]; exact (Keep.mem hw : Mem w [] _).nilOwn benc 1⟩
  · try simp only [Bool.and_eq_true, Bool.or_eq_true, Bool.and_eq_false_iff, Bool.or_eq_false_iff, Bool.not_eq_true', Bool.not_eq_false', decide_eq_true_eq, decide_eq_false_iff_not, Bool.not_eq_true, Bool.not_eq_false] at h0
    refine cw_skip ?_
    refine ex_then ?_
    refine cw_seq ?_
    refine cw_region ?_
    refine sq_build0 benc fun b5 => ?_
    refine sq_r (ry_move rfl) ?_
    refine sq_append (s := ⟨false, b5, 0, 0, 0, none⟩) (ys := ss) rfl rfl (by decide) (fun w hw => src_rows (s := s) Try.underlying83 (by decide) ((inferInstance : Hd _ _ s benc 1 ss).h w hw)) (by simp only [List.length_append, List.length_cons, List.length_nil]; omega) (by simp only [List.length_append, List.length_cons, List.length_nil]; omega) fun s7 hs7 hl7 => ?_
    refine sq_r (ry_assign rfl) ?_
    refine sq_nil ?_
    refine ex_then ?_
    refine cw_ret ?_
    refine ex_ret (.inl rfl) (res_1 rfl (rv_tmp rfl)) (fun w1 hw => ?_)
    exact ⟨s7, rfl, trivial, by simpa using hw⟩
instance cloneB_i {w0 : World} {L : List Ent} {s : Sv} {ss : List UInt8} [hs : HdE w0 L benc 1 s ss] : FnC Try.prog 140 w0 L [s.val] (Sv) (fun zz => zz.val) (fun zz => own benc 1 zz ss :: L) (fun zz => True) (ss.length ≤ 1000000) := ⟨fun hp w hw => (cloneB_c w s ss (hs.h w hw) hp).mono fun e w' ⟨x, h1, h2, h3⟩ => ⟨x, h1, h2, hw.call h3⟩⟩
set_option maxRecDepth 20000 in
theorem sumOpen_c (w : World) (b : Sv) (bs : List UInt8) (hb : Lies benc 1 (hp w) b bs) (hpre : bs.length ≤ 1000000) : Calls Try.prog 106 #[b.val] w fun e w' => ∃ zz : Sv, e = .returned (.tuple #[zz.val, .int .i64 (openE bs)]) ∧ (True) ∧ Mem w [own benc 1 zz (openV bs)] w' := by
  have ghb : Gv w b benc 1 bs := ⟨hb⟩
  refine calls_of (args := [_]) Try.func106 rfl Try.ntmps106 rfl ?_
  change Cw _ _ _ _ _ [(0, b.val)] []
  refine cw_seq ?_
  refine cw_region ?_
  refine sq_r (ry_assign rfl) ?_
  refine sq_r (ry_assign rfl) ?_
  refine sq_nil ?_
  refine ex_then ?_
  refine cw_seq ?_
  refine cw_seq ?_
  refine cw_region ?_
  refine sq_r (ry_move rfl) ?_
  refine sq_r (ry_lenH rfl) ?_
  refine sq_r (ry_int rfl rfl rfl) ?_
  refine sq_nil ?_
  refine ex_then ?_
  refine cw_cond rfl (fun h0 => ?_) (fun h0 => ?_)
  · try simp only [Bool.and_eq_true, Bool.or_eq_true, Bool.and_eq_false_iff, Bool.or_eq_false_iff, Bool.not_eq_true', Bool.not_eq_false', decide_eq_true_eq, decide_eq_false_iff_not, Bool.not_eq_true, Bool.not_eq_false] at h0
    have he : openE bs = 3 := if_pos (by omega)
    have hv : openV bs = [] := by rw [openV, if_neg (by rw [he]; decide)]
    refine cw_seq ?_
    refine cw_region ?_
    refine sq_r (ry_assign rfl) ?_
    refine sq_r (ry_assign rfl) ?_
    refine sq_nil ?_
    refine ex_then ?_
    refine cw_ret ?_
    refine ex_pass_ret ?_
    refine ex_ret (.inl rfl) (res_2 rfl (rv_tmp rfl) (rv_tmp rfl)) (fun w1 hw => ?_)
    exact ⟨Sv.none, by rw [he]; rfl, trivial, by rw [hv]; exact (Keep.mem hw : Mem w [] _).nilOwn benc 1⟩
  · try simp only [Bool.and_eq_true, Bool.or_eq_true, Bool.and_eq_false_iff, Bool.or_eq_false_iff, Bool.not_eq_true', Bool.not_eq_false', decide_eq_true_eq, decide_eq_false_iff_not, Bool.not_eq_true, Bool.not_eq_false] at h0
    have hlen : ¬ bs.length < 4 := by omega
    have ht : (bs.drop 0).take (bs.length - 4 - 0) = bs.take (bs.length - 4) := by simp
    have hd : (bs.drop (bs.length - 4)).take (bs.length - (bs.length - 4)) = bs.drop (bs.length - 4) := List.take_of_length_le (by simp)
    refine cw_skip ?_
    refine ex_then ?_
    refine cw_seq ?_
    refine cw_quiet (by kernel_rfl) (by kernel_rfl) ?_
    refine qt_r (ry_move rfl) ?_
    refine qt_r (ry_move rfl) ?_
    refine qt_r (ry_lenH rfl) ?_
    refine qt_r (ry_sub rfl rfl (by omega)) ?_
    have rg13 : Rg 0 (bs.length - 4) bs.length := ⟨by omega⟩
    refine qt_r (ry_subH_hi rfl rfl (bs.length - 4) (by omega) rg13.h.2) ?_
    refine qt_r (ry_move rfl) ?_
    refine qt_r (ry_move rfl) ?_
    refine qt_r (ry_lenH rfl) ?_
    refine qt_r (ry_sub rfl rfl (by omega)) ?_
    have rg18 : Rg (bs.length - 4) bs.length bs.length := ⟨by omega⟩
    refine qt_r (ry_subH_lo rfl rfl (bs.length - 4) (by omega) rg18.h.1) ?_
    refine qt_r (ry_assign rfl) ?_
    refine qt_r (ry_assign rfl) ?_
    refine qt_nil ?_
    refine ex_then ?_
    refine cw_seq ?_
    refine cw_seq ?_
    refine cw_region ?_
    refine sq_r (ry_move rfl) ?_
    refine sq_y (yl_callC rfl trivial) ?_
    refine sq_r (ry_convn rfl (by simp only [nb]; exact Nat.lt_trans (crc_lt _) (by decide))) ?_
    refine sq_r (ry_move rfl) ?_
    refine sq_y (yl_callC rfl (by simp; omega)) ?_
    refine sq_r (ry_int rfl rfl rfl) ?_
    refine sq_nil ?_
    refine ex_then ?_
    refine cw_cond rfl (fun h1 => ?_) (fun h1 => ?_)
    · try simp only [Bool.and_eq_true, Bool.or_eq_true, Bool.and_eq_false_iff, Bool.or_eq_false_iff, Bool.not_eq_true', Bool.not_eq_false', decide_eq_true_eq, decide_eq_false_iff_not, Bool.not_eq_true, Bool.not_eq_false] at h1
      have he : openE bs = 4 := by rw [openE, if_neg hlen, if_neg (by rw [ht, hd] at h1; omega)]
      have hv : openV bs = [] := by rw [openV, if_neg (by rw [he]; decide)]
      refine cw_seq ?_
      refine cw_region ?_
      refine sq_r (ry_assign rfl) ?_
      refine sq_r (ry_assign rfl) ?_
      refine sq_nil ?_
      refine ex_then ?_
      refine cw_ret ?_
      refine ex_pass_ret ?_
      refine ex_ret (.inl rfl) (res_2 rfl (rv_tmp rfl) (rv_tmp rfl)) (fun w1 hw => ?_)
      exact ⟨Sv.none, by rw [he]; rfl, trivial, by rw [hv]; exact (Keep.mem hw : Mem w [] _).nilOwn benc 1⟩
    · try simp only [Bool.and_eq_true, Bool.or_eq_true, Bool.and_eq_false_iff, Bool.or_eq_false_iff, Bool.not_eq_true', Bool.not_eq_false', decide_eq_true_eq, decide_eq_false_iff_not, Bool.not_eq_true, Bool.not_eq_false] at h1
      have he : openE bs = 0 := by rw [openE, if_neg hlen, if_pos (by rw [ht, hd] at h1; omega)]
      have hv : openV bs = bs.take (bs.length - 4) := by rw [openV, if_pos he]
      refine cw_skip ?_
      refine ex_then ?_
      refine cw_seq ?_
      refine cw_region ?_
      refine sq_r (ry_move rfl) ?_
      refine sq_callC rfl (by rw [ht, List.length_take]; omega) fun x26 hp26 => ?_
      refine sq_r (ry_assign rfl) ?_
      refine sq_r (ry_assign rfl) ?_
      refine sq_nil ?_
      refine ex_then ?_
      refine cw_ret ?_
      refine ex_ret (.inl rfl) (res_2 rfl (rv_tmp rfl) (rv_tmp rfl)) (fun w1 hw => ?_)
      exact ⟨x26, by rw [he], trivial, by rw [hv, ← ht]; exact Keep.mem hw⟩
instance sumOpen_i {w0 : World} {L : List Ent} {b : Sv} {bs : List UInt8} [hb : HdE w0 L benc 1 b bs] : FnC Try.prog 106 w0 L [b.val] (Sv) (fun zz => .tuple #[zz.val, .int .i64 (openE bs)]) (fun zz => own benc 1 zz (openV bs) :: L) (fun zz => True) (bs.length ≤ 1000000) := ⟨fun hp w hw => (sumOpen_c w b bs (hb.h w hw) hp).mono fun e w' ⟨x, h1, h2, h3⟩ => ⟨x, h1, h2, hw.call h3⟩⟩

end Go.Proofs.Ytajhlgdapiihgaa

/- Bytes with their sum, by the reference: walked. -/
set_option linter.unusedSimpArgs false
set_option linter.unusedVariables false
namespace Go.Proofs.Ytajhlgdapiihgaa
open Go.Eng Go.Kb
set_option maxRecDepth 20000 in
theorem refSealed_c (w : World) (b : Sv) (bs : List UInt8) (hb : Lies benc 1 (hp w) b bs) (hpre : bs.length ≤ 900000) : Calls Try.prog 105 #[b.val] w fun e w' => ∃ zz : Sv, e = .returned (zz.val) ∧ (True) ∧ Mem w [own benc 1 zz (sealed bs)] w' := by
  have ghb : Gv w b benc 1 bs := ⟨hb⟩
  have hcl := crc_lt bs
  refine calls_of (args := [_]) Try.func105 rfl Try.ntmps105 rfl ?_
  change Cw _ _ _ _ _ [(0, b.val)] []
  refine cw_seq ?_
  refine cw_region ?_
  refine sq_r (ry_assign rfl) ?_
  refine sq_nil ?_
  refine ex_then ?_
  refine cw_seq ?_
  refine cw_region ?_
  refine sq_build0 benc fun b3 => ?_
  refine sq_r (ry_move rfl) ?_
  refine sq_append (s := ⟨false, b3, 0, 0, 0, none⟩) (ys := bs) rfl rfl (by decide) (fun w hw => src_rows (s := b) Try.underlying83 (by decide) ((inferInstance : Hd _ _ b benc 1 bs).h w hw)) (by simp only [List.length_nil]; omega) (by simp only [List.length_nil]; omega) fun s5 hs5 hl5 => ?_
  refine sq_r (ry_move rfl) ?_
  refine sq_y (yl_callC rfl trivial) ?_
  refine sq_r (ry_convn rfl (by simp only [nb]; omega)) ?_
  refine sq_callC (vs := [_, .int .i64 ((4 : Nat) : Int)]) rfl ⟨by omega, by omega⟩ fun x9 hp9 => ?_
  refine sq_append (s := s5) (ys := (be (crc bs) 4)) rfl rfl (by decide) (fun w hw => src_rows (s := x9) Try.underlying83 (by decide) ((inferInstance : Hd _ _ x9 benc 1 (be (crc bs) 4)).h w hw)) (by simp only [List.nil_append, be_length]; omega) (by simp only [List.nil_append, be_length]; omega) fun s10 hs10 hl10 => ?_
  refine sq_r (ry_assign rfl) ?_
  refine sq_nil ?_
  refine ex_then ?_
  refine cw_ret ?_
  refine ex_ret (.inl rfl) (res_1 rfl (rv_tmp rfl)) (fun w1 hw => ?_)
  exact ⟨s10, rfl, trivial, by rw [sealed]; rw [List.nil_append] at hw; exact Keep.mem hw⟩
instance refSealed_i {w0 : World} {L : List Ent} {b : Sv} {bs : List UInt8} [hb : HdE w0 L benc 1 b bs] : FnC Try.prog 105 w0 L [b.val] (Sv) (fun zz => zz.val) (fun zz => own benc 1 zz (sealed bs) :: L) (fun zz => True) (bs.length ≤ 900000) := ⟨fun hp w hw => (refSealed_c w b bs (hb.h w hw) hp).mono fun e w' ⟨x, h1, h2, h3⟩ => ⟨x, h1, h2, hw.call h3⟩⟩
set_option maxRecDepth 20000 in
theorem refOpen_c (w : World) (b : Sv) (bs : List UInt8) (hb : Lies benc 1 (hp w) b bs) (hpre : bs.length ≤ 900000) : Calls Try.prog 109 #[b.val] w fun e w' => e = .returned (.tuple #[(openS b bs).val, .int .i64 (openE bs)]) ∧ Mem w [] w' := by
  have ghb : Gv w b benc 1 bs := ⟨hb⟩
  refine calls_of (args := [_]) Try.func109 rfl Try.ntmps109 rfl ?_
  change Cw _ _ _ _ _ [(0, b.val)] []
  refine cw_seq ?_
  refine cw_region ?_
  refine sq_r (ry_assign rfl) ?_
  refine sq_r (ry_assign rfl) ?_
  refine sq_nil ?_
  refine ex_then ?_
  refine cw_seq ?_
  refine cw_seq ?_
  refine cw_region ?_
  refine sq_r (ry_move rfl) ?_
  refine sq_r (ry_lenH rfl) ?_
  refine sq_r (ry_int rfl rfl rfl) ?_
  refine sq_nil ?_
  refine ex_then ?_
  refine cw_cond rfl (fun h0 => ?_) (fun h0 => ?_)
  · try simp only [Bool.and_eq_true, Bool.or_eq_true, Bool.and_eq_false_iff, Bool.or_eq_false_iff, Bool.not_eq_true', Bool.not_eq_false', decide_eq_true_eq, decide_eq_false_iff_not, Bool.not_eq_true, Bool.not_eq_false] at h0
    have he : openE bs = 3 := if_pos (by omega)
    refine cw_seq ?_
    refine cw_region ?_
    refine sq_r (ry_assign rfl) ?_
    refine sq_r (ry_assign rfl) ?_
    refine sq_nil ?_
    refine ex_then ?_
    refine cw_ret ?_
    refine ex_pass_ret ?_
    refine ex_ret (.inl rfl) (res_2 rfl (rv_tmp rfl) (rv_tmp rfl)) (fun w1 hw => ?_)
    exact ⟨(by rw [openS, if_neg (by rw [he]; decide), he]; rfl), Keep.mem hw⟩
  · try simp only [Bool.and_eq_true, Bool.or_eq_true, Bool.and_eq_false_iff, Bool.or_eq_false_iff, Bool.not_eq_true', Bool.not_eq_false', decide_eq_true_eq, decide_eq_false_iff_not, Bool.not_eq_true, Bool.not_eq_false] at h0
    have hlen : ¬ bs.length < 4 := by omega
    have ht : ((bs.drop 0).take (bs.length - 4 - 0)) = bs.take (bs.length - 4) := by simp
    refine cw_skip ?_
    refine ex_then ?_
    refine cw_seq ?_
    refine cw_seq ?_
    refine cw_lin [5] [[], [], [], [], [], [], [5], [], [], [5]] [0, 1, 2, 3, 4, 7, 8, 5, 6, 9] _ (fun _ hw => hw) (by kernel_rfl) (by kernel_rfl) ?_
    refine ln_r rfl (ry_move rfl) ?_
    refine ln_r rfl (ry_move rfl) ?_
    refine ln_r rfl (ry_lenH rfl) ?_
    refine ln_r rfl (ry_sub rfl rfl (by omega)) ?_
    have rg11 : Rg 0 (bs.length - 4) bs.length := ⟨by omega⟩
    refine ln_r rfl (ry_subH_hi rfl rfl (bs.length - 4) (by omega) rg11.h.2) ?_
    refine ln_r rfl (ry_move rfl) ?_
    refine ln_r rfl (ry_bstrH Try.underlying83 Try.underlying5 Try.underlying9 rfl) ?_
    refine ln_st' rfl (st_callC rfl (by rw [ht, List.length_take]; omega) fun x12 hp12 => ⟨_, fun _ h => h, fun _ hw => Keep.mem hw, ?_⟩)
    refine ln_r rfl (ry_bstrH Try.underlying83 Try.underlying5 Try.underlying9 rfl) ?_
    refine ln_r rfl (ry_strneL rfl rfl) ?_
    refine ln_nil ?_
    refine ex_then ?_
    refine cw_cond rfl (fun h1 => ?_) (fun h1 => ?_)
    · try simp only [Bool.and_eq_true, Bool.or_eq_true, Bool.and_eq_false_iff, Bool.or_eq_false_iff, Bool.not_eq_true', Bool.not_eq_false', decide_eq_true_eq, decide_eq_false_iff_not, Bool.not_eq_true, Bool.not_eq_false] at h1
      have he : openE bs = 4 := by rw [openE, if_neg hlen, if_neg]; rw [← open_iff hlen, ← ht]; exact h1
      refine cw_seq ?_
      refine cw_region ?_
      refine sq_r (ry_assign rfl) ?_
      refine sq_r (ry_assign rfl) ?_
      refine sq_nil ?_
      refine ex_then ?_
      refine cw_ret ?_
      refine ex_pass_ret ?_
      refine ex_ret (.inl rfl) (res_2 rfl (rv_tmp rfl) (rv_tmp rfl)) (fun w1 hw => ?_)
      exact ⟨(by rw [openS, if_neg (by rw [he]; decide), he]; rfl), Keep.mem hw⟩
    · try simp only [Bool.and_eq_true, Bool.or_eq_true, Bool.and_eq_false_iff, Bool.or_eq_false_iff, Bool.not_eq_true', Bool.not_eq_false', decide_eq_true_eq, decide_eq_false_iff_not, Bool.not_eq_true, Bool.not_eq_false] at h1
      have he : openE bs = 0 := by rw [openE, if_neg hlen, if_pos]; rw [← open_iff hlen, ← ht]; exact h1
      refine cw_skip ?_
      refine ex_then ?_
      refine cw_seq ?_
      refine cw_region ?_
      refine sq_r (ry_move rfl) ?_
      refine sq_r (ry_move rfl) ?_
      refine sq_r (ry_lenH rfl) ?_
      refine sq_r (ry_sub rfl rfl (by omega)) ?_
      have rg21 : Rg 0 (bs.length - 4) bs.length := ⟨by omega⟩
      refine sq_r (ry_subH_hi rfl rfl (bs.length - 4) (by omega) rg21.h.2) ?_
      refine sq_r (ry_assign rfl) ?_
      refine sq_r (ry_assign rfl) ?_
      refine sq_nil ?_
      refine ex_then ?_
      refine cw_ret ?_
      refine ex_ret (.inl rfl) (res_2 rfl (rv_tmp rfl) (rv_tmp rfl)) (fun w1 hw => ?_)
      exact ⟨(by rw [openS, if_pos he, he]), Keep.mem hw⟩
instance refOpen_i {w0 : World} {L : List Ent} {b : Sv} {bs : List UInt8} [hb : HdE w0 L benc 1 b bs] : FnQ Try.prog 109 w0 L [b.val] (.tuple #[(openS b bs).val, .int .i64 (openE bs)]) (bs.length ≤ 900000) := ⟨fun hp w hw => refOpen_c w b bs (hb.h w hw) hp⟩

end Go.Proofs.Ytajhlgdapiihgaa

/- A change as bytes: walked. -/
set_option linter.unusedSimpArgs false
set_option linter.unusedVariables false
namespace Go.Proofs.Ytajhlgdapiihgaa
open Go.Eng Go.Kb
set_option maxRecDepth 20000 in
theorem jlaid_c (w0 w : World) (L : List Ent) (b : Sv) (bs : List UInt8) (g : Ch) (hw : Mem w0 (own benc 1 b bs :: L) w) (hpre : bs.length ≤ 1000000) : Calls Try.prog 101 #[b.val, .agg (chcells g)] w fun e w' => ∃ zz : Sv, e = .returned (zz.val) ∧ (True) ∧ Mem w0 (own benc 1 zz (bs ++ chbytes g) :: L) w' := by
  have hop := g.r.hop.toNat_lt
  have hbe := be_length g.r.hop.toNat 2
  have hkl : (keyB g.r.p.key).length = 16 := by simp [keyB]
  refine calls_in (args := [_, _]) Try.func101 rfl Try.ntmps101 rfl hw ?_
  change Cw _ _ _ _ _ [(0, b.val), (1, .agg (chcells g))] (own benc 1 b bs :: L)
  refine cw_seq ?_
  refine cw_region ?_
  refine sq_boxA rfl fun b3 => ?_
  refine sq_r (ry_assign rfl) ?_
  refine sq_nil ?_
  refine ex_then ?_
  refine cw_seq ?_
  refine cw_region ?_
  refine sq_r (ry_assign rfl) ?_
  refine sq_r (ry_assign rfl) ?_
  refine sq_nil ?_
  refine ex_then ?_
  refine cw_seq ?_
  refine cw_seq ?_
  refine cw_region ?_
  refine sq_r (ry_field (o' := 19) rfl rfl) ?_
  refine sq_r (ry_cellc rfl) ?_
  refine sq_nil ?_
  refine ex_then ?_
  refine cw_cond rfl (fun h0 => ?_) (fun h0 => ?_)
  · try simp only [Bool.and_eq_true, Bool.or_eq_true, Bool.and_eq_false_iff, Bool.or_eq_false_iff, Bool.not_eq_true', Bool.not_eq_false', decide_eq_true_eq, decide_eq_false_iff_not, Bool.not_eq_true, Bool.not_eq_false] at h0
    refine cw_region ?_
    refine sq_r (ry_assign rfl) ?_
    refine sq_nil ?_
    refine ex_then ?_
    refine cw_seq ?_
    refine cw_region ?_
    refine sq_r (ry_field (o' := 0) rfl rfl) ?_
    refine sq_r (ry_field (o' := 0) rfl rfl) ?_
    refine sq_r (ry_part rfl) ?_
    refine sq_allocA fun b7 => ?_
    refine sq_storeW rfl rfl ?_
    refine sq_nil ?_
    refine ex_then ?_
    refine cw_seq ?_
    refine cw_seq ?_
    refine cw_region ?_
    refine sq_r (ry_field (o' := 0) rfl rfl) ?_
    refine sq_r (ry_cellc rfl) ?_
    refine sq_r (ry_int rfl rfl rfl) ?_
    refine sq_nil ?_
    refine ex_then ?_
    refine cw_cond rfl (fun h1 => ?_) (fun h1 => ?_)
    · try simp only [Bool.and_eq_true, Bool.or_eq_true, Bool.and_eq_false_iff, Bool.or_eq_false_iff, Bool.not_eq_true', Bool.not_eq_false', decide_eq_true_eq, decide_eq_false_iff_not, Bool.not_eq_true, Bool.not_eq_false] at h1
      refine cw_region ?_
      refine sq_r (ry_assign rfl) ?_
      refine sq_nil ?_
      refine ex_then ?_
      refine cw_seq ?_
      refine cw_region ?_
      refine sq_r (ry_move rfl) ?_
      refine sq_r (ry_move rfl) ?_
      refine sq_r (ry_move rfl) ?_
      refine sq_r (ry_field (o' := 1) rfl rfl) ?_
      refine sq_r (ry_cellc rfl) ?_
      refine sq_r (ry_conv rfl (wrap_b8i _)) ?_
      refine sq_buildSlice (enc := benc) (vals := [_, _, _]) [1, 1, (b8i g.r.p.len)] rfl rfl rfl (by decide) (by decide) fun b22 => ?_
      refine sq_append (s := b) (ys := [1, 1, (b8i g.r.p.len)]) rfl rfl (by decide) (fun w hw => src_rows (s := ⟨false, b22, 0, 3, 3, none⟩) Try.underlying83 (by decide) ((inferInstance : Hd _ _ ⟨false, b22, 0, 3, 3, none⟩ benc 1 [1, 1, (b8i g.r.p.len)]).h w hw)) (by simp only [List.length_cons, List.length_nil]; omega) (by simp only [List.length_cons, List.length_nil]; omega) fun s23 hs23 hl23 => ?_
      refine sq_r (ry_assign rfl) ?_
      refine sq_nil ?_
      refine ex_then ?_
      refine cw_seq ?_
      refine cw_region ?_
      refine sq_r (ry_move rfl) ?_
      refine sq_r (ry_field (o' := 2) rfl rfl) ?_
      refine sq_r (ry_sliceA_all rfl) ?_
      refine sq_append (ys := keyB g.r.p.key) rfl rfl (by decide) (fun w hw => src_rows (s := ⟨false, b7, 2, 16, 16, none⟩) Try.underlying83 (by decide) (lies_key (hw.block (inferInstance : Has _ b7 _ _ _).h))) (by rw [hkl]; simp only [List.length_append, List.length_cons, List.length_nil]; omega) (by rw [hkl]; simp only [List.length_append, List.length_cons, List.length_nil]; omega) fun s27 hs27 hl27 => ?_
      refine sq_r (ry_assign rfl) ?_
      refine sq_nil ?_
      refine ex_then ?_
      refine cw_seq ?_
      refine cw_region ?_
      refine sq_r (ry_move rfl) ?_
      refine sq_r (ry_field (o' := 0) rfl rfl) ?_
      refine sq_r (ry_field (o' := 18) rfl rfl) ?_
      refine sq_r (ry_cellc rfl) ?_
      refine sq_r (ry_convn rfl (by simp only [nb]; omega)) ?_
      refine sq_callC (vs := [_, .int .i64 ((2 : Nat) : Int)]) rfl ⟨by omega, by omega, by omega⟩ fun x33 hp33 => ?_
      refine sq_append (s := _) (ys := (be g.r.hop.toNat 2)) rfl rfl (by decide) (fun w hw => src_rows (s := x33) Try.underlying83 (by decide) ((inferInstance : Hd _ _ x33 benc 1 (be g.r.hop.toNat 2)).h w hw)) (by simp only [List.length_append, List.length_cons, List.length_nil]; omega) (by simp only [List.length_append, List.length_cons, List.length_nil]; omega) fun s34 hs34 hl34 => ?_
      refine sq_r (ry_assign rfl) ?_
      refine sq_nil ?_
      refine ex_then ?_
      refine cw_ret ?_
      refine ex_ret (.inl rfl) (res_1 rfl (rv_tmp rfl)) (fun w1 hw => ?_)
      refine ⟨s34, rfl, trivial, ?_⟩
      have hw2 : Mem w0 (own benc 1 s34 (bs ++ [1, 1, b8i g.r.p.len] ++ keyB g.r.p.key ++ be g.r.hop.toNat 2) :: L) w1 := Keep.mem hw
      rw [show bs ++ chbytes g = bs ++ [1, 1, b8i g.r.p.len] ++ keyB g.r.p.key ++ be g.r.hop.toNat 2 from by rw [chbytes_parts]; simp [h0, h1]]
      exact hw2
    · try simp only [Bool.and_eq_true, Bool.or_eq_true, Bool.and_eq_false_iff, Bool.or_eq_false_iff, Bool.not_eq_true', Bool.not_eq_false', decide_eq_true_eq, decide_eq_false_iff_not, Bool.not_eq_true, Bool.not_eq_false] at h1
      refine cw_skip ?_
      refine ex_then ?_
      refine cw_seq ?_
      refine cw_region ?_
      refine sq_r (ry_move rfl) ?_
      refine sq_r (ry_move rfl) ?_
      refine sq_r (ry_move rfl) ?_
      refine sq_r (ry_field (o' := 1) rfl rfl) ?_
      refine sq_r (ry_cellc rfl) ?_
      refine sq_r (ry_conv rfl (wrap_b8i _)) ?_
      refine sq_buildSlice (enc := benc) (vals := [_, _, _]) [1, 0, (b8i g.r.p.len)] rfl rfl rfl (by decide) (by decide) fun b22 => ?_
      refine sq_append (s := b) (ys := [1, 0, (b8i g.r.p.len)]) rfl rfl (by decide) (fun w hw => src_rows (s := ⟨false, b22, 0, 3, 3, none⟩) Try.underlying83 (by decide) ((inferInstance : Hd _ _ ⟨false, b22, 0, 3, 3, none⟩ benc 1 [1, 0, (b8i g.r.p.len)]).h w hw)) (by simp only [List.length_cons, List.length_nil]; omega) (by simp only [List.length_cons, List.length_nil]; omega) fun s23 hs23 hl23 => ?_
      refine sq_r (ry_assign rfl) ?_
      refine sq_nil ?_
      refine ex_then ?_
      refine cw_seq ?_
      refine cw_region ?_
      refine sq_r (ry_move rfl) ?_
      refine sq_r (ry_field (o' := 2) rfl rfl) ?_
      refine sq_r (ry_sliceA_all rfl) ?_
      refine sq_append (ys := keyB g.r.p.key) rfl rfl (by decide) (fun w hw => src_rows (s := ⟨false, b7, 2, 16, 16, none⟩) Try.underlying83 (by decide) (lies_key (hw.block (inferInstance : Has _ b7 _ _ _).h))) (by rw [hkl]; simp only [List.length_append, List.length_cons, List.length_nil]; omega) (by rw [hkl]; simp only [List.length_append, List.length_cons, List.length_nil]; omega) fun s27 hs27 hl27 => ?_
      refine sq_r (ry_assign rfl) ?_
      refine sq_nil ?_
      refine ex_then ?_
      refine cw_seq ?_
      refine cw_region ?_
      refine sq_r (ry_move rfl) ?_
      refine sq_r (ry_field (o' := 0) rfl rfl) ?_
      refine sq_r (ry_field (o' := 18) rfl rfl) ?_
      refine sq_r (ry_cellc rfl) ?_
      refine sq_r (ry_convn rfl (by simp only [nb]; omega)) ?_
      refine sq_callC (vs := [_, .int .i64 ((2 : Nat) : Int)]) rfl ⟨by omega, by omega, by omega⟩ fun x33 hp33 => ?_
      refine sq_append (s := _) (ys := (be g.r.hop.toNat 2)) rfl rfl (by decide) (fun w hw => src_rows (s := x33) Try.underlying83 (by decide) ((inferInstance : Hd _ _ x33 benc 1 (be g.r.hop.toNat 2)).h w hw)) (by simp only [List.length_append, List.length_cons, List.length_nil]; omega) (by simp only [List.length_append, List.length_cons, List.length_nil]; omega) fun s34 hs34 hl34 => ?_
      refine sq_r (ry_assign rfl) ?_
      refine sq_nil ?_
      refine ex_then ?_
      refine cw_ret ?_
      refine ex_ret (.inl rfl) (res_1 rfl (rv_tmp rfl)) (fun w1 hw => ?_)
      refine ⟨s34, rfl, trivial, ?_⟩
      have hw2 : Mem w0 (own benc 1 s34 (bs ++ [1, 0, b8i g.r.p.len] ++ keyB g.r.p.key ++ be g.r.hop.toNat 2) :: L) w1 := Keep.mem hw
      rw [show bs ++ chbytes g = bs ++ [1, 0, b8i g.r.p.len] ++ keyB g.r.p.key ++ be g.r.hop.toNat 2 from by rw [chbytes_parts]; simp [h0, h1]]
      exact hw2
  · try simp only [Bool.and_eq_true, Bool.or_eq_true, Bool.and_eq_false_iff, Bool.or_eq_false_iff, Bool.not_eq_true', Bool.not_eq_false', decide_eq_true_eq, decide_eq_false_iff_not, Bool.not_eq_true, Bool.not_eq_false] at h0
    refine cw_skip ?_
    refine ex_then ?_
    refine cw_seq ?_
    refine cw_region ?_
    refine sq_r (ry_field (o' := 0) rfl rfl) ?_
    refine sq_r (ry_field (o' := 0) rfl rfl) ?_
    refine sq_r (ry_part rfl) ?_
    refine sq_allocA fun b7 => ?_
    refine sq_storeW rfl rfl ?_
    refine sq_nil ?_
    refine ex_then ?_
    refine cw_seq ?_
    refine cw_seq ?_
    refine cw_region ?_
    refine sq_r (ry_field (o' := 0) rfl rfl) ?_
    refine sq_r (ry_cellc rfl) ?_
    refine sq_r (ry_int rfl rfl rfl) ?_
    refine sq_nil ?_
    refine ex_then ?_
    refine cw_cond rfl (fun h1 => ?_) (fun h1 => ?_)
    · try simp only [Bool.and_eq_true, Bool.or_eq_true, Bool.and_eq_false_iff, Bool.or_eq_false_iff, Bool.not_eq_true', Bool.not_eq_false', decide_eq_true_eq, decide_eq_false_iff_not, Bool.not_eq_true, Bool.not_eq_false] at h1
      refine cw_region ?_
      refine sq_r (ry_assign rfl) ?_
      refine sq_nil ?_
      refine ex_then ?_
      refine cw_seq ?_
      refine cw_region ?_
      refine sq_r (ry_move rfl) ?_
      refine sq_r (ry_move rfl) ?_
      refine sq_r (ry_move rfl) ?_
      refine sq_r (ry_field (o' := 1) rfl rfl) ?_
      refine sq_r (ry_cellc rfl) ?_
      refine sq_r (ry_conv rfl (wrap_b8i _)) ?_
      refine sq_buildSlice (enc := benc) (vals := [_, _, _]) [0, 1, (b8i g.r.p.len)] rfl rfl rfl (by decide) (by decide) fun b22 => ?_
      refine sq_append (s := b) (ys := [0, 1, (b8i g.r.p.len)]) rfl rfl (by decide) (fun w hw => src_rows (s := ⟨false, b22, 0, 3, 3, none⟩) Try.underlying83 (by decide) ((inferInstance : Hd _ _ ⟨false, b22, 0, 3, 3, none⟩ benc 1 [0, 1, (b8i g.r.p.len)]).h w hw)) (by simp only [List.length_cons, List.length_nil]; omega) (by simp only [List.length_cons, List.length_nil]; omega) fun s23 hs23 hl23 => ?_
      refine sq_r (ry_assign rfl) ?_
      refine sq_nil ?_
      refine ex_then ?_
      refine cw_seq ?_
      refine cw_region ?_
      refine sq_r (ry_move rfl) ?_
      refine sq_r (ry_field (o' := 2) rfl rfl) ?_
      refine sq_r (ry_sliceA_all rfl) ?_
      refine sq_append (ys := keyB g.r.p.key) rfl rfl (by decide) (fun w hw => src_rows (s := ⟨false, b7, 2, 16, 16, none⟩) Try.underlying83 (by decide) (lies_key (hw.block (inferInstance : Has _ b7 _ _ _).h))) (by rw [hkl]; simp only [List.length_append, List.length_cons, List.length_nil]; omega) (by rw [hkl]; simp only [List.length_append, List.length_cons, List.length_nil]; omega) fun s27 hs27 hl27 => ?_
      refine sq_r (ry_assign rfl) ?_
      refine sq_nil ?_
      refine ex_then ?_
      refine cw_seq ?_
      refine cw_region ?_
      refine sq_r (ry_move rfl) ?_
      refine sq_r (ry_field (o' := 0) rfl rfl) ?_
      refine sq_r (ry_field (o' := 18) rfl rfl) ?_
      refine sq_r (ry_cellc rfl) ?_
      refine sq_r (ry_convn rfl (by simp only [nb]; omega)) ?_
      refine sq_callC (vs := [_, .int .i64 ((2 : Nat) : Int)]) rfl ⟨by omega, by omega, by omega⟩ fun x33 hp33 => ?_
      refine sq_append (s := _) (ys := (be g.r.hop.toNat 2)) rfl rfl (by decide) (fun w hw => src_rows (s := x33) Try.underlying83 (by decide) ((inferInstance : Hd _ _ x33 benc 1 (be g.r.hop.toNat 2)).h w hw)) (by simp only [List.length_append, List.length_cons, List.length_nil]; omega) (by simp only [List.length_append, List.length_cons, List.length_nil]; omega) fun s34 hs34 hl34 => ?_
      refine sq_r (ry_assign rfl) ?_
      refine sq_nil ?_
      refine ex_then ?_
      refine cw_ret ?_
      refine ex_ret (.inl rfl) (res_1 rfl (rv_tmp rfl)) (fun w1 hw => ?_)
      refine ⟨s34, rfl, trivial, ?_⟩
      have hw2 : Mem w0 (own benc 1 s34 (bs ++ [0, 1, b8i g.r.p.len] ++ keyB g.r.p.key ++ be g.r.hop.toNat 2) :: L) w1 := Keep.mem hw
      rw [show bs ++ chbytes g = bs ++ [0, 1, b8i g.r.p.len] ++ keyB g.r.p.key ++ be g.r.hop.toNat 2 from by rw [chbytes_parts]; simp [h0, h1]]
      exact hw2
    · try simp only [Bool.and_eq_true, Bool.or_eq_true, Bool.and_eq_false_iff, Bool.or_eq_false_iff, Bool.not_eq_true', Bool.not_eq_false', decide_eq_true_eq, decide_eq_false_iff_not, Bool.not_eq_true, Bool.not_eq_false] at h1
      refine cw_skip ?_
      refine ex_then ?_
      refine cw_seq ?_
      refine cw_region ?_
      refine sq_r (ry_move rfl) ?_
      refine sq_r (ry_move rfl) ?_
      refine sq_r (ry_move rfl) ?_
      refine sq_r (ry_field (o' := 1) rfl rfl) ?_
      refine sq_r (ry_cellc rfl) ?_
      refine sq_r (ry_conv rfl (wrap_b8i _)) ?_
      refine sq_buildSlice (enc := benc) (vals := [_, _, _]) [0, 0, (b8i g.r.p.len)] rfl rfl rfl (by decide) (by decide) fun b22 => ?_
      refine sq_append (s := b) (ys := [0, 0, (b8i g.r.p.len)]) rfl rfl (by decide) (fun w hw => src_rows (s := ⟨false, b22, 0, 3, 3, none⟩) Try.underlying83 (by decide) ((inferInstance : Hd _ _ ⟨false, b22, 0, 3, 3, none⟩ benc 1 [0, 0, (b8i g.r.p.len)]).h w hw)) (by simp only [List.length_cons, List.length_nil]; omega) (by simp only [List.length_cons, List.length_nil]; omega) fun s23 hs23 hl23 => ?_
      refine sq_r (ry_assign rfl) ?_
      refine sq_nil ?_
      refine ex_then ?_
      refine cw_seq ?_
      refine cw_region ?_
      refine sq_r (ry_move rfl) ?_
      refine sq_r (ry_field (o' := 2) rfl rfl) ?_
      refine sq_r (ry_sliceA_all rfl) ?_
      refine sq_append (ys := keyB g.r.p.key) rfl rfl (by decide) (fun w hw => src_rows (s := ⟨false, b7, 2, 16, 16, none⟩) Try.underlying83 (by decide) (lies_key (hw.block (inferInstance : Has _ b7 _ _ _).h))) (by rw [hkl]; simp only [List.length_append, List.length_cons, List.length_nil]; omega) (by rw [hkl]; simp only [List.length_append, List.length_cons, List.length_nil]; omega) fun s27 hs27 hl27 => ?_
      refine sq_r (ry_assign rfl) ?_
      refine sq_nil ?_
      refine ex_then ?_
      refine cw_seq ?_
      refine cw_region ?_
      refine sq_r (ry_move rfl) ?_
      refine sq_r (ry_field (o' := 0) rfl rfl) ?_
      refine sq_r (ry_field (o' := 18) rfl rfl) ?_
      refine sq_r (ry_cellc rfl) ?_
      refine sq_r (ry_convn rfl (by simp only [nb]; omega)) ?_
      refine sq_callC (vs := [_, .int .i64 ((2 : Nat) : Int)]) rfl ⟨by omega, by omega, by omega⟩ fun x33 hp33 => ?_
      refine sq_append (s := _) (ys := (be g.r.hop.toNat 2)) rfl rfl (by decide) (fun w hw => src_rows (s := x33) Try.underlying83 (by decide) ((inferInstance : Hd _ _ x33 benc 1 (be g.r.hop.toNat 2)).h w hw)) (by simp only [List.length_append, List.length_cons, List.length_nil]; omega) (by simp only [List.length_append, List.length_cons, List.length_nil]; omega) fun s34 hs34 hl34 => ?_
      refine sq_r (ry_assign rfl) ?_
      refine sq_nil ?_
      refine ex_then ?_
      refine cw_ret ?_
      refine ex_ret (.inl rfl) (res_1 rfl (rv_tmp rfl)) (fun w1 hw => ?_)
      refine ⟨s34, rfl, trivial, ?_⟩
      have hw2 : Mem w0 (own benc 1 s34 (bs ++ [0, 0, b8i g.r.p.len] ++ keyB g.r.p.key ++ be g.r.hop.toNat 2) :: L) w1 := Keep.mem hw
      rw [show bs ++ chbytes g = bs ++ [0, 0, b8i g.r.p.len] ++ keyB g.r.p.key ++ be g.r.hop.toNat 2 from by rw [chbytes_parts]; simp [h0, h1]]
      exact hw2
instance jlaid_i {w0 : World} {L R : List Ent} {i : Nat} {b : Sv} {bs : List UInt8} {g : Ch} [q : Owns L b benc 1 bs i] [d : DelI L i R] : FnC Try.prog 101 w0 L [b.val, .agg (chcells g)] (Sv) (fun zz => zz.val) (fun zz => own benc 1 zz (bs ++ chbytes g) :: R) (fun zz => True) (bs.length ≤ 1000000) := ⟨fun hp w hw => jlaid_c w0 w R b bs g (mem_one q.h d.h hw) hp⟩
set_option maxRecDepth 20000 in
theorem bytesClone_c (w : World) (b : Sv) (bs : List UInt8) (hb : Lies benc 1 (hp w) b bs) (hpre : bs.length ≤ 1000000) : Calls Try.prog 111 #[b.val] w fun e w' => ∃ zz : Sv, e = .returned (zz.val) ∧ (True) ∧ Mem w [own benc 1 zz bs] w' := by
  have ghb : Gv w b benc 1 bs := ⟨hb⟩
  refine calls_of (args := [_]) Try.func111 rfl Try.ntmps111 rfl ?_
  change Cw _ _ _ _ _ [(0, b.val)] []
  refine cw_seq ?_
  refine cw_region ?_
  refine sq_r (ry_assign rfl) ?_
  refine sq_nil ?_
  refine ex_then ?_
  refine cw_seq ?_
  refine cw_seq ?_
  refine cw_region ?_
  refine sq_r (ry_move rfl) ?_
  refine sq_r (ry_nilS Try.underlying83 rfl) ?_
  refine sq_nil ?_
  refine ex_then ?_
  refine cw_cond rfl (fun h0 => ?_) (fun h0 => ?_)
  · try simp only [Bool.and_eq_true, Bool.or_eq_true, Bool.and_eq_false_iff, Bool.or_eq_false_iff, Bool.not_eq_true', Bool.not_eq_false', decide_eq_true_eq, decide_eq_false_iff_not, Bool.not_eq_true, Bool.not_eq_false] at h0
    have e0 : bs = [] := List.length_eq_zero_iff.1 (by have := hb.ok.nil h0; have := hb.len; omega)
    refine cw_seq ?_
    refine cw_region ?_
    refine sq_r (ry_assign rfl) ?_
    refine sq_nil ?_
    refine ex_then ?_
    refine cw_ret ?_
    refine ex_pass_ret ?_
    refine ex_ret (.inl rfl) (res_1 rfl (rv_tmp rfl)) (fun w1 hw => ?_)
    exact ⟨Sv.none, rfl, trivial, by rw [e0]; exact (Keep.mem hw : Mem w [] _).nilOwn benc 1⟩
  · try simp only [Bool.and_eq_true, Bool.or_eq_true, Bool.and_eq_false_iff, Bool.or_eq_false_iff, Bool.not_eq_true', Bool.not_eq_false', decide_eq_true_eq, decide_eq_false_iff_not, Bool.not_eq_true, Bool.not_eq_false] at h0
    refine cw_skip ?_
    refine ex_then ?_
    refine cw_seq ?_
    refine cw_region ?_
    refine sq_build0 benc fun b5 => ?_
    refine sq_r (ry_move rfl) ?_
    refine sq_append (s := ⟨false, b5, 0, 0, 0, none⟩) (ys := bs) rfl rfl (by decide) (fun w hw => src_rows (s := b) Try.underlying83 (by decide) ((inferInstance : Hd _ _ b benc 1 bs).h w hw)) (by simp only [List.length_nil]; omega) (by simp only [List.length_nil]; omega) fun s7 hs7 hl7 => ?_
    refine sq_r (ry_assign rfl) ?_
    refine sq_nil ?_
    refine ex_then ?_
    refine cw_ret ?_
    refine ex_ret (.inl rfl) (res_1 rfl (rv_tmp rfl)) (fun w1 hw => ?_)
    exact ⟨s7, rfl, trivial, by rw [List.nil_append] at hw; exact Keep.mem hw⟩
instance bytesClone_i {w0 : World} {L : List Ent} {b : Sv} {bs : List UInt8} [hb : HdE w0 L benc 1 b bs] : FnC Try.prog 111 w0 L [b.val] (Sv) (fun zz => zz.val) (fun zz => own benc 1 zz bs :: L) (fun zz => True) (bs.length ≤ 1000000) := ⟨fun hp w hw => (bytesClone_c w b bs (hb.h w hw) hp).mono fun e w' ⟨x, h1, h2, h3⟩ => ⟨x, h1, h2, hw.call h3⟩⟩

end Go.Proofs.Ytajhlgdapiihgaa

/- A batch as bytes: walked. -/
set_option linter.unusedSimpArgs false
set_option linter.unusedVariables false
namespace Go.Proofs.Ytajhlgdapiihgaa
open Go.Eng Go.Kb
set_option maxRecDepth 20000 in
theorem jput_c (w : World) (l : Sv) (ls : List Ch) (hl : Lies chcells 20 (hp w) l ls) : Calls Try.prog 53 #[l.val] w fun e w' => ∃ zz : Sv, e = .returned (.tuple #[zz.val, .int .i64 (jputE ls)]) ∧ (True) ∧ Mem w [own benc 1 zz (jputV ls)] w' := by
  have ghl : Gv w l chcells 20 ls := ⟨hl⟩
  refine calls_of (args := [_]) Try.func53 rfl Try.ntmps53 rfl ?_
  change Cw _ _ _ _ _ [(0, l.val)] []
  refine cw_seq ?_
  refine cw_region ?_
  refine sq_r (ry_assign rfl) ?_
  refine sq_r (ry_assign rfl) ?_
  refine sq_nil ?_
  refine ex_then ?_
  refine cw_seq ?_
  refine cw_seq ?_
  refine cw_region ?_
  refine sq_r (ry_move rfl) ?_
  refine sq_r (ry_lenH rfl) ?_
  refine sq_r (ry_int rfl rfl rfl) ?_
  refine sq_nil ?_
  refine ex_then ?_
  refine cw_cond rfl (fun h0 => ?_) (fun h0 => ?_)
  · try simp only [Bool.and_eq_true, Bool.or_eq_true, Bool.and_eq_false_iff, Bool.or_eq_false_iff, Bool.not_eq_true', Bool.not_eq_false', decide_eq_true_eq, decide_eq_false_iff_not, Bool.not_eq_true, Bool.not_eq_false] at h0
    have he : jputE ls = 1 := by rw [jputE, if_pos (by omega)]
    refine cw_seq ?_
    refine cw_region ?_
    refine sq_r (ry_assign rfl) ?_
    refine sq_r (ry_assign rfl) ?_
    refine sq_nil ?_
    refine ex_then ?_
    refine cw_ret ?_
    refine ex_pass_ret ?_
    refine ex_ret (.inl rfl) (res_2 rfl (rv_tmp rfl) (rv_tmp rfl)) (fun w1 hw => ?_)
    exact ⟨Sv.none, by rw [he]; rfl, trivial, by rw [jputV, if_neg (by rw [he]; decide)]; exact (Keep.mem hw : Mem w [] _).nilOwn benc 1⟩
  · try simp only [Bool.and_eq_true, Bool.or_eq_true, Bool.and_eq_false_iff, Bool.or_eq_false_iff, Bool.not_eq_true', Bool.not_eq_false', decide_eq_true_eq, decide_eq_false_iff_not, Bool.not_eq_true, Bool.not_eq_false] at h0
    have hln : ls.length ≤ 200 := by omega
    refine cw_skip ?_
    refine ex_then ?_
    refine cw_seq ?_
    refine cw_region ?_
    refine sq_r (ry_move rfl) ?_
    refine sq_r (ry_lenH rfl) ?_
    refine sq_r (ry_convn rfl (by simp only [nb]; omega)) ?_
    refine sq_callC (vs := [_, .int .i64 ((2 : Nat) : Int)]) rfl ⟨by omega, by omega, by omega⟩ fun x13 hp13 => ?_
    refine sq_r (ry_assign rfl) ?_
    refine sq_nil ?_
    refine ex_then ?_
    refine cw_seq ?_
    refine cw_seq ?_
    refine cw_region ?_
    refine sq_r (ry_move rfl) ?_
    refine sq_r (ry_lenH rfl) ?_
    refine sq_r (ry_move rfl) ?_
    refine sq_nil ?_
    refine ex_then ?_
    refine cw_block ?_
    refine cw_loop (X := Nat × Sv) (fun zz => [(16, .int .i64 (zz.1 : Nat)), (4, zz.2.val), (14, l.val), (15, .int .i64 (ls.length : Nat))]) (fun zz => [own benc 1 zz.2 (jbody ls zz.1)]) (fun zz => zz.1 ≤ ls.length ∧ ∀ x ∈ ls.take zz.1, pmay x.r.p = true) (fun zz => ls.length - zz.1) (0, x13) ⟨Nat.zero_le _, by simp⟩ (Sub.cons rfl (Sub.cons rfl (Sub.cons rfl (Sub.cons rfl (Sub.nil _))))) (fun w hw => by rw [show jbody ls 0 = be ls.length 2 from by simp [jbody]]; exact Keep.mem hw) ?_
    rintro ⟨i, s1⟩ ⟨hi1, hi2⟩
    dsimp only
    simp only at hi1 hi2
    have hjl := jbody_length ls i hi1
    refine cw_seq ?_
    refine cw_region ?_
    refine sq_r (ry_int rfl rfl rfl) ?_
    refine sq_nil ?_
    refine ex_then ?_
    refine cw_seq ?_
    refine cw_cond rfl (fun h1 => ?_) (fun h1 => ?_)
    · try simp only [Bool.and_eq_true, Bool.or_eq_true, Bool.and_eq_false_iff, Bool.or_eq_false_iff, Bool.not_eq_true', Bool.not_eq_false', decide_eq_true_eq, decide_eq_false_iff_not, Bool.not_eq_true, Bool.not_eq_false] at h1
      refine cw_skip ?_
      refine ex_then ?_
      refine cw_seq ?_
      refine cw_block ?_
      refine cw_seq ?_
      refine cw_region ?_
      obtain ⟨g, hg⟩ := get_some (xs := ls) (i := i) (by omega)
      refine sq_r (ry_idxH rfl rfl i rfl (by omega)) ?_
      refine sq_r (ry_elemH rfl i hg rfl) ?_
      refine sq_allocA fun b6 => ?_
      refine sq_storeW rfl rfl ?_
      refine sq_nil ?_
      refine ex_then ?_
      refine cw_seq ?_
      refine cw_seq ?_
      refine cw_region ?_
      refine sq_r (ry_field (o' := 0) rfl rfl) ?_
      refine sq_r (ry_field (o' := 0) rfl rfl) ?_
      refine sq_r (ry_part rfl) ?_
      refine sq_y (yl_callC rfl trivial) ?_
      refine sq_r (ry_not rfl) ?_
      refine sq_nil ?_
      refine ex_then ?_
      refine cw_cond rfl (fun h2 => ?_) (fun h2 => ?_)
      · try simp only [Bool.and_eq_true, Bool.or_eq_true, Bool.and_eq_false_iff, Bool.or_eq_false_iff, Bool.not_eq_true', Bool.not_eq_false', decide_eq_true_eq, decide_eq_false_iff_not, Bool.not_eq_true, Bool.not_eq_false] at h2
        have he : jputE ls = 1 := jput_bad hg h2
        refine cw_seq ?_
        refine cw_region ?_
        refine sq_r (ry_assign rfl) ?_
        refine sq_r (ry_assign rfl) ?_
        refine sq_nil ?_
        refine ex_then ?_
        refine cw_ret ?_
        refine ex_pass_ret ?_
        refine ex_block_ret ?_
        refine ex_pass_ret ?_
        refine ex_pass_ret ?_
        refine ex_block_ret ?_
        refine ex_pass_ret ?_
        refine ex_ret (.inl rfl) (res_2 rfl (rv_tmp rfl) (rv_tmp rfl)) (fun w1 hw => ?_)
        exact ⟨Sv.none, by rw [he]; rfl, trivial, by rw [jputV, if_neg (by rw [he]; decide)]; exact (Keep.mem hw : Mem w [] _).nilOwn benc 1⟩
      · try simp only [Bool.and_eq_true, Bool.or_eq_true, Bool.and_eq_false_iff, Bool.or_eq_false_iff, Bool.not_eq_true', Bool.not_eq_false', decide_eq_true_eq, decide_eq_false_iff_not, Bool.not_eq_true, Bool.not_eq_false] at h2
        have hgm : pmay g.r.p = true := by simpa using h2
        refine cw_skip ?_
        refine ex_then ?_
        refine cw_region ?_
        refine sq_r (ry_move rfl) ?_
        refine sq_r (ry_whole rfl) ?_
        refine sq_callC rfl (by omega) fun x27 hp27 => ?_
        refine sq_r (ry_assign rfl) ?_
        refine sq_nil ?_
        refine ex_block ?_
        refine ex_then ?_
        refine cw_region ?_
        refine sq_r (ry_add rfl rfl (by omega)) ?_
        refine sq_r (ry_move rfl) ?_
        refine sq_nil ?_
        exact ex_again (x := (i, s1)) (i + 1, x27) ⟨by first | omega | (simp only []; omega), fun x hx => by rw [take_snoc hg] at hx; rcases List.mem_append.1 hx with h | h; (exact hi2 x h); (rw [List.mem_singleton.1 h]; exact hgm)⟩ (by simp only; omega) (Sub.cons rfl (Sub.cons rfl (Sub.cons rfl (Sub.cons rfl (Sub.nil _))))) (fun w hw => by rw [jbody_snoc hg]; exact Keep.mem hw)
    · try simp only [Bool.and_eq_true, Bool.or_eq_true, Bool.and_eq_false_iff, Bool.or_eq_false_iff, Bool.not_eq_true', Bool.not_eq_false', decide_eq_true_eq, decide_eq_false_iff_not, Bool.not_eq_true, Bool.not_eq_false] at h1
      obtain rfl : i = ls.length := by omega
      have he : jputE ls = 0 := by rw [jputE, if_neg (by omega), if_pos]; rw [List.all_eq_true]; intro x hx; exact hi2 x (by rw [List.take_length]; exact hx)
      refine cw_exit ?_
      refine ex_pass_exit ?_
      refine ex_pass_exit ?_
      refine ex_block_hit ?_
      refine ex_then ?_
      refine cw_seq ?_
      refine cw_region ?_
      refine sq_r (ry_move rfl) ?_
      refine sq_callC rfl (by omega) fun x30 hp30 => ?_
      refine sq_r (ry_assign rfl) ?_
      refine sq_r (ry_assign rfl) ?_
      refine sq_nil ?_
      refine ex_then ?_
      refine cw_ret ?_
      refine ex_ret (.inl rfl) (res_2 rfl (rv_tmp rfl) (rv_tmp rfl)) (fun w1 hw => ?_)
      exact ⟨x30, by rw [he], trivial, by rw [jputV, if_pos he]; exact Keep.mem hw⟩
instance jput_i {w0 : World} {L : List Ent} {l : Sv} {ls : List Ch} [hl : HdE w0 L chcells 20 l ls] : FnC Try.prog 53 w0 L [l.val] (Sv) (fun zz => .tuple #[zz.val, .int .i64 (jputE ls)]) (fun zz => own benc 1 zz (jputV ls) :: L) (fun zz => True) (True) := ⟨fun hp w hw => (jput_c w l ls (hl.h w hw)).mono fun e w' ⟨x, h1, h2, h3⟩ => ⟨x, h1, h2, hw.call h3⟩⟩
set_option maxRecDepth 20000 in
theorem jadd_c (w : World) (b : Sv) (bs : List UInt8) (l : Sv) (ls : List Ch) (hb : Lies benc 1 (hp w) b bs) (hl : Lies chcells 20 (hp w) l ls) (hpre : bs.length ≤ 900000) : Calls Try.prog 58 #[b.val, l.val] w fun e w' => ∃ zz : Sv, e = .returned (.tuple #[zz.val, .int .i64 (jputE ls)]) ∧ (True) ∧ Mem w [own benc 1 zz (jaddV bs ls)] w' := by
  have ghb : Gv w b benc 1 bs := ⟨hb⟩
  have ghl : Gv w l chcells 20 ls := ⟨hl⟩
  have hpl := jputV_length (l := ls)
  refine calls_of (args := [_, _]) Try.func58 rfl Try.ntmps58 rfl ?_
  change Cw _ _ _ _ _ [(0, b.val), (1, l.val)] []
  refine cw_seq ?_
  refine cw_region ?_
  refine sq_r (ry_assign rfl) ?_
  refine sq_r (ry_assign rfl) ?_
  refine sq_nil ?_
  refine ex_then ?_
  refine cw_seq ?_
  refine cw_region ?_
  refine sq_r (ry_move rfl) ?_
  refine sq_callC rfl trivial fun x10 hp10 => ?_
  refine sq_r (ry_move rfl) ?_
  refine sq_r (ry_extract (v := x10.val) rfl rfl) ?_
  refine sq_r (ry_extract (v := .int .i64 (jputE ls)) rfl rfl) ?_
  refine sq_r (ry_assign rfl) ?_
  refine sq_r (ry_assign rfl) ?_
  refine sq_nil ?_
  refine ex_then ?_
  refine cw_seq ?_
  refine cw_seq ?_
  refine cw_region ?_
  refine sq_r (ry_move rfl) ?_
  refine sq_r (ry_int rfl rfl rfl) ?_
  refine sq_nil ?_
  refine ex_then ?_
  refine cw_cond rfl (fun h0 => ?_) (fun h0 => ?_)
  · try simp only [Bool.and_eq_true, Bool.or_eq_true, Bool.and_eq_false_iff, Bool.or_eq_false_iff, Bool.not_eq_true', Bool.not_eq_false', decide_eq_true_eq, decide_eq_false_iff_not, Bool.not_eq_true, Bool.not_eq_false] at h0
    have he : ¬ jputE ls = 0 := h0
    refine cw_seq ?_
    refine cw_region ?_
    refine sq_r (ry_move rfl) ?_
    refine sq_callC rfl (by omega) fun x16 hp16 => ?_
    refine sq_r (ry_move rfl) ?_
    refine sq_r (ry_assign rfl) ?_
    refine sq_r (ry_assign rfl) ?_
    refine sq_nil ?_
    refine ex_then ?_
    refine cw_ret ?_
    refine ex_pass_ret ?_
    refine ex_ret (.inl rfl) (res_2 rfl (rv_tmp rfl) (rv_tmp rfl)) (fun w1 hw => ?_)
    exact ⟨x16, rfl, trivial, by rw [jaddV, if_neg he]; exact Keep.mem hw⟩
  · try simp only [Bool.and_eq_true, Bool.or_eq_true, Bool.and_eq_false_iff, Bool.or_eq_false_iff, Bool.not_eq_true', Bool.not_eq_false', decide_eq_true_eq, decide_eq_false_iff_not, Bool.not_eq_true, Bool.not_eq_false] at h0
    have he : jputE ls = 0 := by simpa using h0
    refine cw_skip ?_
    refine ex_then ?_
    refine cw_seq ?_
    refine cw_region ?_
    refine sq_r (ry_move rfl) ?_
    refine sq_r (ry_move rfl) ?_
    refine sq_r (ry_lenH rfl) ?_
    refine sq_r (ry_convn rfl (by simp only [nb]; omega)) ?_
    refine sq_callC (vs := [_, .int .i64 ((2 : Nat) : Int)]) rfl ⟨by omega, by omega, by omega⟩ fun x22 hp22 => ?_
    refine sq_r (ry_move rfl) ?_
    refine sq_buildSlice (enc := (scells (τ := UInt8))) [(⟨b, bs⟩ : Sl UInt8), ⟨x22, be (jputV ls).length 2⟩, ⟨x10, jputV ls⟩] (vals := [b.val, x22.val, x10.val]) rfl (by simp only [List.map_cons, List.map_nil, Sv.cells_val]; rfl) rfl (by decide) (by decide) fun b24 => ?_
    refine sq_nameD (τ := Sl UInt8) (xs := [(⟨b, bs⟩ : Sl UInt8), ⟨x22, be (jputV ls).length 2⟩, ⟨x10, jputV ls⟩]) fun a24 h24 g24 => ?_
    have hf24 : flatB a24.xs = jaddV bs ls := by rw [h24, jaddV, if_pos he]; simp [flatB]
    have hf25 : (jaddV bs ls).length = bs.length + 2 + (jputV ls).length := by rw [jaddV, if_pos he, List.length_append, List.length_append, be_length]
    refine sq_callC rfl (by rw [hf24]; omega) fun x25 hp25 => ?_
    refine sq_r (ry_assign rfl) ?_
    refine sq_r (ry_assign rfl) ?_
    refine sq_nil ?_
    refine ex_then ?_
    refine cw_ret ?_
    refine ex_ret (.inl rfl) (res_2 rfl (rv_tmp rfl) (rv_tmp rfl)) (fun w1 hw => ?_)
    exact ⟨x25, by rw [he], trivial, by rw [← hf24]; exact Keep.mem hw⟩
instance jadd_i {w0 : World} {L : List Ent} {b : Sv} {bs : List UInt8} {l : Sv} {ls : List Ch} [hb : HdE w0 L benc 1 b bs] [hl : HdE w0 L chcells 20 l ls] : FnC Try.prog 58 w0 L [b.val, l.val] (Sv) (fun zz => .tuple #[zz.val, .int .i64 (jputE ls)]) (fun zz => own benc 1 zz (jaddV bs ls) :: L) (fun zz => True) (bs.length ≤ 900000) := ⟨fun hp w hw => (jadd_c w b bs l ls (hb.h w hw) (hl.h w hw) hp).mono fun e w' ⟨x, h1, h2, h3⟩ => ⟨x, h1, h2, hw.call h3⟩⟩

end Go.Proofs.Ytajhlgdapiihgaa

/- A change out of its bytes: walked. -/
set_option linter.unusedSimpArgs false
set_option linter.unusedVariables false
namespace Go.Proofs.Ytajhlgdapiihgaa
open Go.Eng Go.Kb
instance (b : Bool) : BuildT Try.prog 72 [(1, .bool b)] (.agg (chcells ⟨zroute, b⟩)) := ⟨fun w => by unfold chcells rcells pcells zroute; rw [kcells_zero]; kernel_rfl⟩
set_option maxRecDepth 20000 in
theorem jchange_c (w : World) (b : Sv) (bs : List UInt8) (hb : Lies benc 1 (hp w) b bs) (hpre : bs.length = 21) : Calls Try.prog 108 #[b.val] w fun e w' => e = .returned (.tuple #[.agg (chcells (rdcv bs)), .bool (rdcok bs)]) ∧ Mem w [] w' := by
  have ghb : Gv w b benc 1 bs := ⟨hb⟩
  have eg : ∀ (i : Nat) e, bs[i]? = some e → bs.getD i 0 = e := fun i e h => by simp [List.getD, h]
  obtain ⟨x0, hx0⟩ := get_some (xs := bs) (i := 0) (by omega)
  obtain ⟨x1, hx1⟩ := get_some (xs := bs) (i := 1) (by omega)
  obtain ⟨x2, hx2⟩ := get_some (xs := bs) (i := 2) (by omega)
  obtain ⟨e18, he18⟩ := get_some (xs := bs) (i := 19) (by omega)
  obtain ⟨e19, he19⟩ := get_some (xs := bs) (i := 20) (by omega)
  have eg0 := eg 0 x0 hx0
  have eg1 := eg 1 x1 hx1
  have eg2 := eg 2 x2 hx2
  have eg18 := eg 19 e18 he18
  have eg19 := eg 20 e19 he19
  have le1 : ∀ x : UInt8, x ≤ 1 ↔ (x.toNat : Int) ≤ 1 := fun x => by rw [UInt8.le_iff_toNat_le]; simp; omega
  refine calls_of (args := [_]) Try.func108 rfl Try.ntmps108 rfl ?_
  change Cw _ _ _ _ _ [(0, b.val)] []
  refine cw_seq ?_
  refine cw_region ?_
  refine sq_allocA fun b2 => ?_
  refine sq_r (ry_assign rfl) ?_
  refine sq_nil ?_
  refine ex_then ?_
  refine cw_seq ?_
  refine cw_seq ?_
  refine cw_region ?_
  refine sq_r (ry_move rfl) ?_
  refine sq_r (ry_idxH rfl rfl 0 rfl (by omega)) ?_
  refine sq_r (ry_elemcH (j := 0) rfl 0 hx0 rfl (by decide)) ?_
  refine sq_r (ry_int rfl rfl rfl) ?_
  refine sq_r (ry_move rfl) ?_
  refine sq_gf rfl rfl rfl (fun hg => (Ry.yl (ry_move rfl))) ?_
  refine sq_gf rfl rfl rfl (fun hg => (Ry.yl (ry_idxH (ev_c hg rfl) rfl 1 rfl (by simp only [Bool.and_eq_true, Bool.or_eq_true, Bool.and_eq_false_iff, Bool.or_eq_false_iff, Bool.not_eq_true', Bool.not_eq_false', decide_eq_true_eq, decide_eq_false_iff_not, Bool.not_eq_true, Bool.not_eq_false] at hg; omega)))) ?_
  refine sq_gf rfl rfl rfl (fun hg => (Ry.yl (ry_elemcH (j := 0) (ev_c hg rfl) 1 hx1 rfl (by decide)))) ?_
  refine sq_gf rfl rfl rfl (fun hg => (Ry.yl (ry_int (ev_c hg rfl) rfl rfl))) ?_
  refine sq_r (ry_or rfl rfl rfl) ?_
  refine sq_nil ?_
  refine ex_then ?_
  refine cw_cond rfl (fun h0 => ?_) (fun h0 => ?_)
  · try simp only [Bool.and_eq_true, Bool.or_eq_true, Bool.and_eq_false_iff, Bool.or_eq_false_iff, Bool.not_eq_true', Bool.not_eq_false', decide_eq_true_eq, decide_eq_false_iff_not, Bool.not_eq_true, Bool.not_eq_false] at h0
    have hno : rdcok1 bs = false := by rw [rdcok1, eg0, eg1, Bool.and_eq_false_iff, decide_eq_false_iff_not, decide_eq_false_iff_not, le1, le1]; omega
    have hv : rdcv bs = zch := if_neg (by rw [hno]; simp)
    refine cw_seq ?_
    refine cw_region ?_
    refine sq_r (ry_buildc rfl) ?_
    refine sq_storeW rfl rfl ?_
    refine sq_r (ry_assign rfl) ?_
    refine sq_nil ?_
    refine ex_then ?_
    refine cw_ret ?_
    refine ex_pass_ret ?_
    refine ex_ret (.inl rfl) (res_2 rfl (rv_agg rfl) (rv_tmp rfl)) (fun w1 hw => ?_)
    exact ⟨by rw [hv, rdcok, hno]; rfl, Keep.mem hw⟩
  · try simp only [Bool.and_eq_true, Bool.or_eq_true, Bool.and_eq_false_iff, Bool.or_eq_false_iff, Bool.not_eq_true', Bool.not_eq_false', decide_eq_true_eq, decide_eq_false_iff_not, Bool.not_eq_true, Bool.not_eq_false] at h0
    have hyes : rdcok1 bs = true := by rw [rdcok1, eg0, eg1, Bool.and_eq_true, decide_eq_true_eq, decide_eq_true_eq, le1, le1]; omega
    have hv : rdcv bs = rdch bs := if_pos hyes
    refine cw_skip ?_
    refine ex_then ?_
    refine cw_seq ?_
    refine cw_region ?_
    refine sq_r (ry_move rfl) ?_
    refine sq_r (ry_idxH rfl rfl 0 rfl (by omega)) ?_
    refine sq_r (ry_elemcH (j := 0) rfl 0 hx0 rfl (by decide)) ?_
    refine sq_r (ry_int rfl rfl rfl) ?_
    refine sq_r (ry_buildc rfl) ?_
    refine sq_allocA fun b4 => ?_
    refine sq_storeW rfl rfl ?_
    refine sq_nil ?_
    refine ex_then ?_
    refine cw_seq ?_
    refine cw_region ?_
    refine sq_r (ry_field (o' := 0) rfl rfl) ?_
    refine sq_r (ry_field (o' := 0) rfl rfl) ?_
    refine sq_r (ry_assign rfl) ?_
    refine sq_nil ?_
    refine ex_then ?_
    refine cw_seq ?_
    refine cw_region ?_
    refine sq_r (ry_move rfl) ?_
    refine sq_r (ry_nilp rfl) ?_
    refine sq_r (ry_field (o' := 0) rfl rfl) ?_
    refine sq_store rfl rfl (by rw [chcells_size]; decide) rfl rfl ?_
    refine sq_nil ?_
    refine ex_then ?_
    refine cw_cut (X := Unit) (fun zz => [(0, b.val), (2, .pointer (some ⟨b2, 0, none⟩)), (4, .pointer (some ⟨b4, 0, none⟩)), (5, .pointer (some ⟨b4, 0, none⟩))]) (fun zz => [blk b4 ((chcells ⟨zroute, decide ((x0.toNat : Int) = 1)⟩).setIfInBounds 0 (.int .i64 (if x1 = 1 then 128 else 32))) 72, blk b2 (chcells zch) 72]) (fun zz => True) ?_ ?_
    · refine cw_seq ?_
      refine cw_region ?_
      refine sq_r (ry_move rfl) ?_
      refine sq_r (ry_idxH rfl rfl 1 rfl (by omega)) ?_
      refine sq_r (ry_elemcH (j := 0) rfl 1 hx1 rfl (by decide)) ?_
      refine sq_r (ry_int rfl rfl rfl) ?_
      refine sq_nil ?_
      refine ex_then ?_
      refine cw_cond rfl (fun h1 => ?_) (fun h1 => ?_)
      · try simp only [Bool.and_eq_true, Bool.or_eq_true, Bool.and_eq_false_iff, Bool.or_eq_false_iff, Bool.not_eq_true', Bool.not_eq_false', decide_eq_true_eq, decide_eq_false_iff_not, Bool.not_eq_true, Bool.not_eq_false] at h1
        have h1x : x1 = 1 := UInt8.toNat_inj.1 (by simp; omega)
        refine cw_region ?_
        refine sq_r (ry_move rfl) ?_
        refine sq_r (ry_nilp rfl) ?_
        refine sq_r (ry_field (o' := 0) rfl rfl) ?_
        refine sq_store rfl rfl (by simp [chcells_size]) rfl rfl ?_
        refine sq_nil ?_
        exact ex_meet () trivial (Sub.cons rfl (Sub.cons rfl (Sub.cons rfl (Sub.cons rfl (Sub.nil _))))) (fun w hw => by rw [if_pos h1x]; rw [Array.setIfInBounds_setIfInBounds] at hw; exact hw)
      · try simp only [Bool.and_eq_true, Bool.or_eq_true, Bool.and_eq_false_iff, Bool.or_eq_false_iff, Bool.not_eq_true', Bool.not_eq_false', decide_eq_true_eq, decide_eq_false_iff_not, Bool.not_eq_true, Bool.not_eq_false] at h1
        have h1x : ¬ x1 = 1 := fun h => by subst h; simp at h1
        refine cw_skip ?_
        exact ex_meet () trivial (Sub.cons rfl (Sub.cons rfl (Sub.cons rfl (Sub.cons rfl (Sub.nil _))))) (fun w hw => by rw [if_neg h1x]; exact hw)
    · rintro ⟨⟩ hJ
      refine cw_seq ?_
      refine cw_region ?_
      refine sq_r (ry_move rfl) ?_
      refine sq_r (ry_move rfl) ?_
      refine sq_r (ry_idxH rfl rfl 2 rfl (by omega)) ?_
      refine sq_r (ry_elemcH (j := 0) rfl 2 hx2 rfl (by decide)) ?_
      refine sq_r (ry_conv_u8 rfl) ?_
      refine sq_r (ry_nilp rfl) ?_
      refine sq_r (ry_field (o' := 1) rfl rfl) ?_
      refine sq_store rfl rfl (by simp [chcells_size]) rfl rfl ?_
      refine sq_nil ?_
      refine ex_then ?_
      refine cw_seq ?_
      refine cw_lin [6] [[], [], [], [], [], [], []] [0, 1, 2, 3, 4, 5, 6] [] (fun _ hw => Keep.mem hw) (by kernel_rfl) (by kernel_rfl) ?_
      refine ln_r rfl (ry_move rfl) ?_
      refine ln_r rfl (ry_nilp rfl) ?_
      refine ln_r rfl (ry_field (o' := 2) rfl rfl) ?_
      refine ln_r rfl (ry_sliceA_all rfl) ?_
      refine ln_r rfl (ry_move rfl) ?_
      have rg46 : Rg 3 19 bs.length := ⟨by omega⟩
      refine ln_r rfl (ry_subH rfl rfl rfl 3 19 rfl rfl rg46.h.1 rg46.h.2) ?_
      refine ln_st rfl (st_copyS (ys := (bs.drop 3).take 16) rfl rfl (by simp; omega) (by simp; omega) (by simp [chcells_size]; omega) rfl ⟨fun _ hw => Keep.mem hw, ?_⟩)
      refine ln_nil ?_
      refine ex_then ?_
      refine cw_seq ?_
      refine cw_region ?_
      refine sq_r (ry_move rfl) ?_
      have rg49 : Rg 19 21 bs.length := ⟨by omega⟩
      refine sq_r (ry_subH rfl rfl rfl 19 21 rfl rfl rg49.h.1 rg49.h.2) ?_
      refine sq_y (yl_callC rfl (by simp; omega)) ?_
      refine sq_r (ry_conv rfl (show IntKind.u16.wrap _ = ((hop16 e18 e19).toNat : Int) from by rw [de_two he18 he19 rfl]; exact wrap_nat (by simp only [nb]; exact (hop16 e18 e19).toNat_lt))) ?_
      refine sq_r (ry_field (o' := 0) rfl rfl) ?_
      refine sq_r (ry_field (o' := 18) rfl rfl) ?_
      refine sq_store rfl rfl (by rw [over_size (by rw [List.size_toArray, flatR_length]; simp [chcells_size]; omega)]; simp [chcells_size]) rfl rfl ?_
      refine sq_nil ?_
      refine ex_then ?_
      refine cw_seq ?_
      refine cw_mem [blk b4 (chcells (rdch bs)) 72, blk b2 (chcells zch) 72] (fun w hw => ?_) ?_
      · rw [rdch, eg0, show decide (x0 = 1) = decide ((x0.toNat : Int) = 1) from by rw [decide_eq_decide, ← UInt8.toNat_inj]; simp; omega, ← unch_cells (b := bs) hpre (g := decide ((x0.toNat : Int) = 1)) (v := if x1 = 1 then 128 else 32) (by rw [eg1]), eg2, eg18, eg19]; exact hw
      refine cw_lin [5] [[], [], [], [], [], [], [5]] [0, 1, 2, 3, 4, 5, 6] [blk b4 (chcells (rdch bs)) 72] (fun _ hw => Keep.mem hw) (by kernel_rfl) (by kernel_rfl) ?_
      refine ln_r rfl (ry_whole rfl) ?_
      refine ln_r rfl (ry_move rfl) ?_
      refine ln_r rfl (ry_nilp rfl) ?_
      refine ln_r rfl (ry_part rfl) ?_
      refine ln_y rfl (yl_callC rfl trivial) ?_
      refine ln_st rfl (st_storeW rfl rfl ⟨fun _ hw => Keep.mem hw, ?_⟩)
      refine ln_r rfl (ry_assign rfl) ?_
      refine ln_nil ?_
      refine ex_then ?_
      refine cw_ret ?_
      refine ex_ret (.inl rfl) (res_2 rfl (rv_agg rfl) (rv_tmp rfl)) (fun w1 hw => ?_)
      exact ⟨by rw [hv, rdcok, hyes, Bool.true_and], Keep.mem hw⟩
instance jchange_i {w0 : World} {L : List Ent} {b : Sv} {bs : List UInt8} [hb : HdE w0 L benc 1 b bs] : FnQ Try.prog 108 w0 L [b.val] (.tuple #[.agg (chcells (rdcv bs)), .bool (rdcok bs)]) (bs.length = 21) := ⟨fun hp w hw => jchange_c w b bs (hb.h w hw) hp⟩

end Go.Proofs.Ytajhlgdapiihgaa

/- A batch out of its bytes: walked. -/
set_option linter.unusedSimpArgs false
set_option linter.unusedVariables false
namespace Go.Proofs.Ytajhlgdapiihgaa
open Go.Eng Go.Kb
set_option maxRecDepth 20000 in
theorem jread_c (w : World) (b : Sv) (bs : List UInt8) (hb : Lies benc 1 (hp w) b bs) (hpre : bs.length ≤ 1000000) : Calls Try.prog 55 #[b.val] w fun e w' => ∃ zz : Sv, e = .returned (.tuple #[zz.val, .int .i64 (jreadE bs)]) ∧ (True) ∧ Mem w [own chcells 20 zz (jreadV bs)] w' := by
  have ghb : Gv w b benc 1 bs := ⟨hb⟩
  have hde := de_two_lt (openV bs)
  refine calls_of (args := [_]) Try.func55 rfl Try.ntmps55 rfl ?_
  change Cw _ _ _ _ _ [(0, b.val)] []
  refine cw_seq ?_
  refine cw_region ?_
  refine sq_r (ry_assign rfl) ?_
  refine sq_r (ry_assign rfl) ?_
  refine sq_nil ?_
  refine ex_then ?_
  refine cw_seq ?_
  refine cw_region ?_
  refine sq_r (ry_move rfl) ?_
  refine sq_callC rfl (by omega) fun x12 hp12 => ?_
  refine sq_r (ry_move rfl) ?_
  refine sq_r (ry_extract (v := x12.val) rfl rfl) ?_
  refine sq_r (ry_extract (v := .int .i64 (openE bs)) rfl rfl) ?_
  refine sq_r (ry_assign rfl) ?_
  refine sq_r (ry_assign rfl) ?_
  refine sq_nil ?_
  refine ex_then ?_
  refine cw_seq ?_
  refine cw_seq ?_
  refine cw_region ?_
  refine sq_r (ry_move rfl) ?_
  refine sq_r (ry_int rfl rfl rfl) ?_
  refine sq_nil ?_
  refine ex_then ?_
  refine cw_cond rfl (fun h0 => ?_) (fun h0 => ?_)
  · try simp only [Bool.and_eq_true, Bool.or_eq_true, Bool.and_eq_false_iff, Bool.or_eq_false_iff, Bool.not_eq_true', Bool.not_eq_false', decide_eq_true_eq, decide_eq_false_iff_not, Bool.not_eq_true, Bool.not_eq_false] at h0
    have he : jreadE bs = openE bs := if_neg h0
    refine cw_seq ?_
    refine cw_region ?_
    refine sq_r (ry_move rfl) ?_
    refine sq_r (ry_assign rfl) ?_
    refine sq_r (ry_assign rfl) ?_
    refine sq_nil ?_
    refine ex_then ?_
    refine cw_ret ?_
    refine ex_pass_ret ?_
    refine ex_ret (.inl rfl) (res_2 rfl (rv_tmp rfl) (rv_tmp rfl)) (fun w1 hw => ?_)
    exact ⟨Sv.none, by rw [he]; rfl, trivial, by rw [jreadV, if_neg (by rw [he]; exact h0)]; exact (Keep.mem hw : Mem w [] _).nilOwn chcells 20⟩
  · try simp only [Bool.and_eq_true, Bool.or_eq_true, Bool.and_eq_false_iff, Bool.or_eq_false_iff, Bool.not_eq_true', Bool.not_eq_false', decide_eq_true_eq, decide_eq_false_iff_not, Bool.not_eq_true, Bool.not_eq_false] at h0
    have ho : openE bs = 0 := by simpa using h0
    refine cw_skip ?_
    refine ex_then ?_
    refine cw_seq ?_
    refine cw_seq ?_
    refine cw_region ?_
    refine sq_r (ry_move rfl) ?_
    refine sq_r (ry_lenH rfl) ?_
    refine sq_r (ry_int rfl rfl rfl) ?_
    refine sq_nil ?_
    refine ex_then ?_
    refine cw_cond rfl (fun h1 => ?_) (fun h1 => ?_)
    · try simp only [Bool.and_eq_true, Bool.or_eq_true, Bool.and_eq_false_iff, Bool.or_eq_false_iff, Bool.not_eq_true', Bool.not_eq_false', decide_eq_true_eq, decide_eq_false_iff_not, Bool.not_eq_true, Bool.not_eq_false] at h1
      have hf : jform (openV bs) = false := by rw [jform, decide_eq_false (by omega)]; rfl
      have he : jreadE bs = 2 := by rw [jreadE, if_pos ho, if_neg]; rw [hf]; simp
      refine cw_seq ?_
      refine cw_region ?_
      refine sq_r (ry_assign rfl) ?_
      refine sq_r (ry_assign rfl) ?_
      refine sq_nil ?_
      refine ex_then ?_
      refine cw_ret ?_
      refine ex_pass_ret ?_
      refine ex_ret (.inl rfl) (res_2 rfl (rv_tmp rfl) (rv_tmp rfl)) (fun w1 hw => ?_)
      exact ⟨Sv.none, by rw [he]; rfl, trivial, by rw [jreadV, if_neg (by rw [he]; decide)]; exact (Keep.mem hw : Mem w [] _).nilOwn chcells 20⟩
    · try simp only [Bool.and_eq_true, Bool.or_eq_true, Bool.and_eq_false_iff, Bool.or_eq_false_iff, Bool.not_eq_true', Bool.not_eq_false', decide_eq_true_eq, decide_eq_false_iff_not, Bool.not_eq_true, Bool.not_eq_false] at h1
      have hl2 : 2 ≤ (openV bs).length := by omega
      refine cw_skip ?_
      refine ex_then ?_
      refine cw_seq ?_
      refine cw_region ?_
      refine sq_r (ry_move rfl) ?_
      have rg22 : Rg 0 2 (openV bs).length := ⟨by omega⟩
      refine sq_r (ry_subH_hi rfl rfl 2 rfl rg22.h.2) ?_
      refine sq_y (yl_callC rfl (by simp; omega)) ?_
      refine sq_r (Ry.to (v' := .int .i64 (((de ((openV bs).take 2)) : Nat) : Int)) (ry_convn rfl (by simp only [nb, List.drop_zero, Nat.sub_zero]; omega)) (by rw [List.drop_zero, Nat.sub_zero])) ?_
      refine sq_r (ry_assign rfl) ?_
      refine sq_nil ?_
      refine ex_then ?_
      refine cw_seq ?_
      refine cw_region ?_
      refine sq_r (ry_move rfl) ?_
      have rg26 : Rg 2 ((openV bs).length) (openV bs).length := ⟨by omega⟩
      refine sq_r (ry_subH_lo rfl rfl 2 rfl rg26.h.1) ?_
      refine sq_r (ry_assign rfl) ?_
      refine sq_nil ?_
      refine ex_then ?_
      refine cw_seq ?_
      refine cw_seq ?_
      refine cw_region ?_
      refine sq_r (ry_move rfl) ?_
      refine sq_r (ry_int rfl rfl rfl) ?_
      refine sq_r (ry_move rfl) ?_
      refine sq_gf rfl rfl rfl (fun hg => (Ry.yl (ry_move rfl))) ?_
      refine sq_gf rfl rfl rfl (fun hg => (Ry.yl (ry_lenH (ev_c hg rfl)))) ?_
      refine sq_gf rfl rfl rfl (fun hg => (Ry.yl (ry_move rfl))) ?_
      refine sq_gf rfl rfl rfl (fun hg => (Ry.yl (ry_mul (ev_c hg rfl) rfl (by simp only [Bool.and_eq_true, Bool.or_eq_true, Bool.and_eq_false_iff, Bool.or_eq_false_iff, Bool.not_eq_true', Bool.not_eq_false', decide_eq_true_eq, decide_eq_false_iff_not, Bool.not_eq_true, Bool.not_eq_false] at hg; omega)))) ?_
      refine sq_gf rfl rfl rfl (fun hg => (Ry.yl (ry_int (ev_c hg rfl) (ev_c hg rfl) rfl))) ?_
      refine sq_r (ry_or rfl rfl rfl) ?_
      refine sq_nil ?_
      refine ex_then ?_
      refine cw_cond rfl (fun h2 => ?_) (fun h2 => ?_)
      · try simp only [Bool.and_eq_true, Bool.or_eq_true, Bool.and_eq_false_iff, Bool.or_eq_false_iff, Bool.not_eq_true', Bool.not_eq_false', decide_eq_true_eq, decide_eq_false_iff_not, Bool.not_eq_true, Bool.not_eq_false] at h2
        have hf : jform (openV bs) = false := by
          rw [jform]
          rcases h2 with h | h
          · rw [decide_eq_false (p := (de ((openV bs).take 2)) ≤ 200) (by omega)]; simp
          · rw [decide_eq_false (p := ((openV bs).drop 2).length = 21 * (de ((openV bs).take 2))) (by simp only [List.length_take, List.length_drop] at h ⊢; omega)]; simp
        have he : jreadE bs = 2 := by rw [jreadE, if_pos ho, if_neg]; rw [hf]; simp
        refine cw_seq ?_
        refine cw_region ?_
        refine sq_r (ry_assign rfl) ?_
        refine sq_r (ry_assign rfl) ?_
        refine sq_nil ?_
        refine ex_then ?_
        refine cw_ret ?_
        refine ex_pass_ret ?_
        refine ex_ret (.inl rfl) (res_2 rfl (rv_tmp rfl) (rv_tmp rfl)) (fun w1 hw => ?_)
        exact ⟨Sv.none, by rw [he]; rfl, trivial, by rw [jreadV, if_neg (by rw [he]; decide)]; exact (Keep.mem hw : Mem w [] _).nilOwn chcells 20⟩
      · try simp only [Bool.and_eq_true, Bool.or_eq_true, Bool.and_eq_false_iff, Bool.or_eq_false_iff, Bool.not_eq_true', Bool.not_eq_false', decide_eq_true_eq, decide_eq_false_iff_not, Bool.not_eq_true, Bool.not_eq_false] at h2
        have hn1 : (de ((openV bs).take 2)) ≤ 200 := by omega
        have hn2 : ((openV bs).drop 2).length = 21 * (de ((openV bs).take 2)) := by have := h2.2; simp only [List.length_take, List.length_drop] at this ⊢; omega
        refine cw_skip ?_
        refine ex_then ?_
        refine cw_seq ?_
        refine cw_region ?_
        refine sq_r (ry_move rfl) ?_
        refine sq_makeS (enc := chcells) (n := (de ((openV bs).take 2))) (cap := (de ((openV bs).take 2))) zch rfl rfl rfl rfl rfl (by omega) (by omega) (by omega) fun b37 => ?_
        refine sq_r (ry_assign rfl) ?_
        refine sq_nil ?_
        refine ex_then ?_
        refine cw_seq ?_
        refine cw_seq ?_
        refine cw_region ?_
        refine sq_r (ry_move rfl) ?_
        refine sq_r (Ry.to (v' := .int .i64 (((de ((openV bs).take 2)) : Nat) : Int)) (ry_lenH rfl) (by rw [List.length_replicate])) ?_
        refine sq_r (ry_move rfl) ?_
        refine sq_nil ?_
        refine ex_then ?_
        refine cw_block ?_
        refine cw_loop (X := Nat) (fun zz => [(40, .int .i64 (zz : Nat)), (6, (⟨false, b37, 0, (de ((openV bs).take 2)), (de ((openV bs).take 2)), none⟩ : Sv).val), (0, (x12.sub 1 2 ((openV bs).length)).val), (39, .int .i64 ((de ((openV bs).take 2)) : Nat))]) (fun zz => [own chcells 20 ⟨false, b37, 0, (de ((openV bs).take 2)), (de ((openV bs).take 2)), none⟩ (jgo ((openV bs).drop 2) zz ++ List.replicate ((de ((openV bs).take 2)) - zz) zch), own benc 1 x12 (openV bs)]) (fun zz => zz ≤ (de ((openV bs).take 2)) ∧ jgok ((openV bs).drop 2) zz = true) (fun zz => (de ((openV bs).take 2)) - zz) 0 ⟨Nat.zero_le _, rfl⟩ (Sub.cons rfl (Sub.cons rfl (Sub.cons rfl (Sub.cons rfl (Sub.nil _))))) (fun w hw => by rw [show jgo ((openV bs).drop 2) 0 = [] from rfl, List.nil_append, Nat.sub_zero]; exact Keep.mem hw) ?_
        rintro i ⟨hi1, hi2⟩
        have hxl : (jgo ((openV bs).drop 2) i ++ List.replicate ((de ((openV bs).take 2)) - i) zch).length = (de ((openV bs).take 2)) := by rw [List.length_append, List.length_replicate, jgo_length]; omega
        refine cw_seq ?_
        refine cw_region ?_
        refine sq_r (ry_int rfl rfl rfl) ?_
        refine sq_nil ?_
        refine ex_then ?_
        refine cw_seq ?_
        refine cw_cond rfl (fun h3 => ?_) (fun h3 => ?_)
        · try simp only [Bool.and_eq_true, Bool.or_eq_true, Bool.and_eq_false_iff, Bool.or_eq_false_iff, Bool.not_eq_true', Bool.not_eq_false', decide_eq_true_eq, decide_eq_false_iff_not, Bool.not_eq_true, Bool.not_eq_false] at h3
          refine cw_skip ?_
          refine ex_then ?_
          refine cw_seq ?_
          refine cw_block ?_
          refine cw_seq ?_
          refine cw_region ?_
          refine sq_r (ry_move rfl) ?_
          refine sq_r (ry_assign rfl) ?_
          refine sq_nil ?_
          refine ex_then ?_
          refine cw_seq ?_
          refine cw_region ?_
          refine sq_r (ry_move rfl) ?_
          refine sq_r (ry_move rfl) ?_
          refine sq_r (ry_mul rfl rfl (by omega)) ?_
          refine sq_r (ry_move rfl) ?_
          refine sq_r (ry_add rfl rfl (by omega)) ?_
          refine sq_r (ry_mul rfl rfl (by omega)) ?_
          have rg50 : Rg (i * 21) ((i + 1) * 21) (((openV bs).drop 2).take ((openV bs).length - 2)).length := ⟨by simp only [List.length_take, List.length_drop] at hn2 ⊢; omega⟩
          refine sq_r (ry_subH rfl rfl rfl (i * 21) ((i + 1) * 21) rfl rfl rg50.h.1 rg50.h.2) ?_
          have hX : (((((openV bs).drop 2).take ((openV bs).length - 2)).drop (i * 21)).take ((i + 1) * 21 - i * 21)).length = 21 := by rw [chunk_raw, chunk, List.length_take, List.length_drop]; omega
          refine sq_y (yl_callC rfl hX) ?_
          refine sq_r (ry_move rfl) ?_
          refine sq_r (ry_extract (v := .agg (chcells (rdcv (((((openV bs).drop 2).take ((openV bs).length - 2)).drop (i * 21)).take (((i + 1) * 21) - (i * 21)))))) rfl rfl) ?_
          refine sq_r (ry_extract (v := .bool (rdcok (((((openV bs).drop 2).take ((openV bs).length - 2)).drop (i * 21)).take (((i + 1) * 21) - (i * 21))))) rfl rfl) ?_
          refine sq_allocA fun b8 => ?_
          refine sq_storeW rfl rfl ?_
          refine sq_r (ry_assign rfl) ?_
          refine sq_nil ?_
          refine ex_then ?_
          refine cw_seq ?_
          refine cw_seq ?_
          refine cw_region ?_
          refine sq_r (ry_move rfl) ?_
          refine sq_r (ry_not rfl) ?_
          refine sq_nil ?_
          refine ex_then ?_
          refine cw_cond rfl (fun h4 => ?_) (fun h4 => ?_)
          · try simp only [Bool.and_eq_true, Bool.or_eq_true, Bool.and_eq_false_iff, Bool.or_eq_false_iff, Bool.not_eq_true', Bool.not_eq_false', decide_eq_true_eq, decide_eq_false_iff_not, Bool.not_eq_true, Bool.not_eq_false] at h4
            have hf : jform (openV bs) = false := by rw [jform, jgok_no (i := i) (by omega) (by rw [← chunk_raw]; simpa using h4)]; simp
            have he : jreadE bs = 2 := by rw [jreadE, if_pos ho, if_neg]; rw [hf]; simp
            refine cw_seq ?_
            refine cw_region ?_
            refine sq_r (ry_assign rfl) ?_
            refine sq_r (ry_assign rfl) ?_
            refine sq_nil ?_
            refine ex_then ?_
            refine cw_ret ?_
            refine ex_pass_ret ?_
            refine ex_block_ret ?_
            refine ex_pass_ret ?_
            refine ex_pass_ret ?_
            refine ex_block_ret ?_
            refine ex_pass_ret ?_
            refine ex_ret (.inl rfl) (res_2 rfl (rv_tmp rfl) (rv_tmp rfl)) (fun w1 hw => ?_)
            exact ⟨Sv.none, by rw [he]; rfl, trivial, by rw [jreadV, if_neg (by rw [he]; decide)]; exact (Keep.mem hw : Mem w [] _).nilOwn chcells 20⟩
          · try simp only [Bool.and_eq_true, Bool.or_eq_true, Bool.and_eq_false_iff, Bool.or_eq_false_iff, Bool.not_eq_true', Bool.not_eq_false', decide_eq_true_eq, decide_eq_false_iff_not, Bool.not_eq_true, Bool.not_eq_false] at h4
            have hok : rdcok (((((openV bs).drop 2).take ((openV bs).length - 2)).drop (i * 21)).take ((i + 1) * 21 - i * 21)) = true := by simpa using h4
            have hv : rdcv (((((openV bs).drop 2).take ((openV bs).length - 2)).drop (i * 21)).take ((i + 1) * 21 - i * 21)) = rdch (chunk ((openV bs).drop 2) i) := by rw [rdcok, Bool.and_eq_true] at hok; rw [rdcv, if_pos hok.1, chunk_raw]
            rw [chunk_raw] at hok
            refine cw_skip ?_
            refine ex_then ?_
            refine cw_region ?_
            refine sq_r (ry_move rfl) ?_
            refine sq_r (ry_move rfl) ?_
            refine sq_r (ry_whole rfl) ?_
            refine sq_r (ry_idxH rfl rfl i rfl (by omega)) ?_
            refine sq_storeS (n := 20) (k := i) (j := 0) (a := zch) (a' := rdcv (((((openV bs).drop 2).take ((openV bs).length - 2)).drop (i * 21)).take ((i + 1) * 21 - i * 21))) (xs := (jgo ((openV bs).drop 2) i ++ List.replicate ((de ((openV bs).take 2)) - i) zch)) (enc := chcells) (c := 20) (v := .agg (chcells (rdcv (((((openV bs).drop 2).take ((openV bs).length - 2)).drop (i * 21)).take ((i + 1) * 21 - i * 21))))) (by kernel_rfl) rfl rfl rfl (jgo_at (by omega)) (Enc.one (enc := chcells) (c := 20) _) (chcells_size _) (by decide) (over_whole (by rw [chcells_size]; exact (chcells_size _).symm)) ?_
            refine sq_nil ?_
            refine ex_block ?_
            refine ex_then ?_
            refine cw_region ?_
            refine sq_r (ry_add rfl rfl (by omega)) ?_
            refine sq_r (ry_move rfl) ?_
            refine sq_nil ?_
            exact ex_again (x := (i)) (i + 1) ⟨by first | omega | (simp only []; omega), by rw [jgok_succ, hi2, hok]; rfl⟩ (by first | omega | (simp only []; omega)) (Sub.cons rfl (Sub.cons rfl (Sub.cons rfl (Sub.cons rfl (Sub.nil _))))) (fun w hw => by rw [hv, jgo_fill (by omega)] at hw; exact Keep.mem hw)
        · try simp only [Bool.and_eq_true, Bool.or_eq_true, Bool.and_eq_false_iff, Bool.or_eq_false_iff, Bool.not_eq_true', Bool.not_eq_false', decide_eq_true_eq, decide_eq_false_iff_not, Bool.not_eq_true, Bool.not_eq_false] at h3
          obtain rfl : i = (de ((openV bs).take 2)) := by omega
          have he : jreadE bs = 0 := by rw [jreadE, if_pos ho, if_pos]; rw [jform, hi2, decide_eq_true hl2, decide_eq_true hn1, decide_eq_true hn2]; rfl
          refine cw_exit ?_
          refine ex_pass_exit ?_
          refine ex_pass_exit ?_
          refine ex_block_hit ?_
          refine ex_then ?_
          refine cw_seq ?_
          refine cw_region ?_
          refine sq_r (ry_move rfl) ?_
          refine sq_r (ry_assign rfl) ?_
          refine sq_r (ry_assign rfl) ?_
          refine sq_nil ?_
          refine ex_then ?_
          refine cw_ret ?_
          refine ex_ret (.inl rfl) (res_2 rfl (rv_tmp rfl) (rv_tmp rfl)) (fun w1 hw => ?_)
          exact ⟨⟨false, b37, 0, (de ((openV bs).take 2)), (de ((openV bs).take 2)), none⟩, by rw [he], trivial, by rw [Nat.sub_self, List.replicate_zero, List.append_nil] at hw; rw [jreadV, if_pos he]; exact Keep.mem hw⟩
instance jread_i {w0 : World} {L : List Ent} {b : Sv} {bs : List UInt8} [hb : HdE w0 L benc 1 b bs] : FnC Try.prog 55 w0 L [b.val] (Sv) (fun zz => .tuple #[zz.val, .int .i64 (jreadE bs)]) (fun zz => own chcells 20 zz (jreadV bs) :: L) (fun zz => True) (bs.length ≤ 1000000) := ⟨fun hp w hw => (jread_c w b bs (hb.h w hw) hp).mono fun e w' ⟨x, h1, h2, h3⟩ => ⟨x, h1, h2, hw.call h3⟩⟩

end Go.Proofs.Ytajhlgdapiihgaa

/- All batches of a journal; a journal is played: walked. -/
set_option linter.unusedSimpArgs false
set_option linter.unusedVariables false
namespace Go.Proofs.Ytajhlgdapiihgaa
open Go.Eng Go.Kb
set_option maxRecDepth 20000 in
theorem jall_c (w : World) (j : Sv) (js : List UInt8) (hj : Lies benc 1 (hp w) j js) (hpre : js.length ≤ 1000000) : Calls Try.prog 60 #[j.val] w fun e w' => ∃ zz : Sl (Sl Ch), e = .returned (.tuple #[zz.sv.val, .int .i64 (((allJ js).2) : Nat)]) ∧ (lc zz = (allJ js).1) ∧ Mem w [Deep.ent zz] w' := by
  have ghj : Gv w j benc 1 js := ⟨hj⟩
  refine calls_of (args := [_]) Try.func60 rfl Try.ntmps60 rfl ?_
  change Cw _ _ _ _ _ [(0, j.val)] []
  refine cw_seq ?_
  refine cw_region ?_
  refine sq_r (ry_assign rfl) ?_
  refine sq_r (ry_assign rfl) ?_
  refine sq_nil ?_
  refine ex_then ?_
  refine cw_seq ?_
  refine cw_region ?_
  refine sq_r (ry_assign rfl) ?_
  refine sq_nil ?_
  refine ex_then ?_
  refine cw_seq ?_
  refine cw_region ?_
  refine sq_r (ry_assign rfl) ?_
  refine sq_nil ?_
  refine ex_then ?_
  refine cw_seq ?_
  refine cw_block ?_
  refine cw_loop (X := Nat × Sl (Sl Ch)) (fun zz => [(5, .int .i64 (zz.1 : Nat)), (4, zz.2.sv.val), (0, j.val)]) (fun zz => [Deep.ent zz.2]) (fun zz => zz.1 ≤ js.length ∧ allJ js = (lc zz.2 ++ (allJ (js.drop zz.1)).1, zz.1 + (allJ (js.drop zz.1)).2) ∧ zz.2.xs.length ≤ zz.1) (fun zz => js.length - zz.1) (0, ⟨Sv.none, []⟩) ⟨Nat.zero_le _, by simp [lc], Nat.le_refl _⟩ (Sub.cons rfl (Sub.cons rfl (Sub.cons rfl (Sub.nil _)))) (fun w hw => Mem.nilEnt (enc := scells) (c := 1) hw) ?_
  rintro ⟨d, a⟩ ⟨hi1, hi2, hi3⟩
  dsimp only
  simp only at hi1 hi2 hi3
  have hM := de_two_lt (js.drop d)
  refine cw_seq ?_
  refine cw_seq ?_
  refine cw_region ?_
  refine sq_r (ry_move rfl) ?_
  refine sq_r (ry_lenH rfl) ?_
  refine sq_r (ry_move rfl) ?_
  refine sq_r (ry_sub rfl rfl (by omega)) ?_
  refine sq_r (ry_int rfl rfl rfl) ?_
  refine sq_nil ?_
  refine ex_then ?_
  refine cw_cond rfl (fun h0 => ?_) (fun h0 => ?_)
  · try simp only [Bool.and_eq_true, Bool.or_eq_true, Bool.and_eq_false_iff, Bool.or_eq_false_iff, Bool.not_eq_true', Bool.not_eq_false', decide_eq_true_eq, decide_eq_false_iff_not, Bool.not_eq_true, Bool.not_eq_false] at h0
    have hl1 : ¬ (js.drop d).length < 2 := by rw [List.length_drop]; omega
    refine cw_skip ?_
    refine ex_then ?_
    refine cw_block ?_
    refine cw_seq ?_
    refine cw_region ?_
    refine sq_r (ry_move rfl) ?_
    refine sq_r (ry_add rfl rfl (by omega)) ?_
    refine sq_r (ry_move rfl) ?_
    refine sq_r (ry_move rfl) ?_
    refine sq_r (ry_move rfl) ?_
    refine sq_r (ry_add rfl rfl (by omega)) ?_
    have rg20 : Rg d (d + 2) js.length := ⟨by omega⟩
    refine sq_r (ry_subH rfl rfl rfl d (d + 2) rfl rfl rg20.h.1 rg20.h.2) ?_
    refine sq_y (yl_callC rfl (by rw [show d + 2 - d = 2 by omega, List.length_take]; omega)) ?_
    refine sq_r (Ry.to (v' := .int .i64 (((de ((js.drop d).take 2)) : Nat) : Int)) (ry_convn rfl (by simp only [nb, show d + 2 - d = 2 by omega]; omega)) (by rw [show d + 2 - d = 2 by omega])) ?_
    refine sq_r (ry_add rfl rfl (by omega)) ?_
    refine sq_r (ry_assign rfl) ?_
    refine sq_nil ?_
    refine ex_then ?_
    refine cw_seq ?_
    refine cw_seq ?_
    refine cw_region ?_
    refine sq_r (ry_move rfl) ?_
    refine sq_r (ry_move rfl) ?_
    refine sq_r (ry_lenH rfl) ?_
    refine sq_r (ry_int rfl rfl rfl) ?_
    refine sq_nil ?_
    refine ex_then ?_
    refine cw_cond rfl (fun h1 => ?_) (fun h1 => ?_)
    · try simp only [Bool.and_eq_true, Bool.or_eq_true, Bool.and_eq_false_iff, Bool.or_eq_false_iff, Bool.not_eq_true', Bool.not_eq_false', decide_eq_true_eq, decide_eq_false_iff_not, Bool.not_eq_true, Bool.not_eq_false] at h1
      have hz : allJ js = (lc a, d) := by rw [hi2, allJ_cut (by rw [List.length_drop]; omega), List.append_nil]; rfl
      refine cw_exit ?_
      refine ex_pass_exit ?_
      refine ex_block_miss rfl ?_
      refine ex_pass_exit ?_
      refine ex_block_hit ?_
      refine ex_then ?_
      refine cw_seq ?_
      refine cw_region ?_
      refine sq_r (ry_move rfl) ?_
      refine sq_r (ry_move rfl) ?_
      refine sq_r (ry_assign rfl) ?_
      refine sq_r (ry_assign rfl) ?_
      refine sq_nil ?_
      refine ex_then ?_
      refine cw_ret ?_
      refine ex_ret (.inl rfl) (res_2 rfl (rv_tmp rfl) (rv_tmp rfl)) (fun w1 hw => ?_)
      exact ⟨a, by rw [hz], by rw [hz], Keep.mem hw⟩
    · try simp only [Bool.and_eq_true, Bool.or_eq_true, Bool.and_eq_false_iff, Bool.or_eq_false_iff, Bool.not_eq_true', Bool.not_eq_false', decide_eq_true_eq, decide_eq_false_iff_not, Bool.not_eq_true, Bool.not_eq_false] at h1
      have hl2 : ¬ (js.drop d).length < 2 + (de ((js.drop d).take 2)) := by rw [List.length_drop]; omega
      refine cw_skip ?_
      refine ex_then ?_
      refine cw_seq ?_
      refine cw_region ?_
      refine sq_r (ry_move rfl) ?_
      refine sq_r (ry_move rfl) ?_
      refine sq_r (ry_add rfl rfl (by omega)) ?_
      refine sq_r (ry_move rfl) ?_
      have rg33 : Rg (d + 2) ((d + 2) + (de ((js.drop d).take 2))) js.length := ⟨by omega⟩
      refine sq_r (ry_subH rfl rfl rfl (d + 2) ((d + 2) + (de ((js.drop d).take 2))) rfl rfl rg33.h.1 rg33.h.2) ?_
      refine sq_callC rfl (by simp only [List.length_take, List.length_drop]; omega) fun x34 hp34 => ?_
      refine sq_r (ry_move rfl) ?_
      refine sq_r (ry_extract (v := x34.val) rfl rfl) ?_
      refine sq_r (ry_extract (v := .int .i64 (jreadE ((js.drop (d + 2)).take (((d + 2) + (de ((js.drop d).take 2))) - (d + 2))))) rfl rfl) ?_
      refine sq_r (ry_assign rfl) ?_
      refine sq_r (ry_assign rfl) ?_
      refine sq_nil ?_
      refine ex_then ?_
      refine cw_seq ?_
      refine cw_seq ?_
      refine cw_region ?_
      refine sq_r (ry_move rfl) ?_
      refine sq_r (ry_int rfl rfl rfl) ?_
      refine sq_nil ?_
      refine ex_then ?_
      refine cw_cond rfl (fun h2 => ?_) (fun h2 => ?_)
      · try simp only [Bool.and_eq_true, Bool.or_eq_true, Bool.and_eq_false_iff, Bool.or_eq_false_iff, Bool.not_eq_true', Bool.not_eq_false', decide_eq_true_eq, decide_eq_false_iff_not, Bool.not_eq_true, Bool.not_eq_false] at h2
        have hz : allJ js = (lc a, d) := by rw [hi2, allJ_bad (by rw [← part_raw]; exact h2), List.append_nil]; rfl
        refine cw_exit ?_
        refine ex_pass_exit ?_
        refine ex_block_miss rfl ?_
        refine ex_pass_exit ?_
        refine ex_block_hit ?_
        refine ex_then ?_
        refine cw_seq ?_
        refine cw_region ?_
        refine sq_r (ry_move rfl) ?_
        refine sq_r (ry_move rfl) ?_
        refine sq_r (ry_assign rfl) ?_
        refine sq_r (ry_assign rfl) ?_
        refine sq_nil ?_
        refine ex_then ?_
        refine cw_ret ?_
        refine ex_ret (.inl rfl) (res_2 rfl (rv_tmp rfl) (rv_tmp rfl)) (fun w1 hw => ?_)
        exact ⟨a, by rw [hz], by rw [hz], Keep.mem hw⟩
      · try simp only [Bool.and_eq_true, Bool.or_eq_true, Bool.and_eq_false_iff, Bool.or_eq_false_iff, Bool.not_eq_true', Bool.not_eq_false', decide_eq_true_eq, decide_eq_false_iff_not, Bool.not_eq_true, Bool.not_eq_false] at h2
        have hre : jreadE (((js.drop d).drop 2).take (de ((js.drop d).take 2))) = 0 := by rw [← part_raw]; simpa using h2
        refine cw_skip ?_
        refine ex_then ?_
        refine cw_seq ?_
        refine cw_region ?_
        refine sq_r (ry_move rfl) ?_
        refine sq_r (ry_move rfl) ?_
        refine sq_buildSlice (enc := scells) (vals := [x34.val]) [⟨x34, (jreadV ((js.drop (d + 2)).take (((d + 2) + (de ((js.drop d).take 2))) - (d + 2))))⟩] rfl (by simp only [List.map_cons, List.map_nil, Sv.cells_val]; rfl) rfl (by decide) (by decide) fun b41 => ?_
        refine sq_appendD (s := ⟨false, b41, 0, 1, 1, none⟩) a [⟨x34, (jreadV ((js.drop (d + 2)).take (((d + 2) + (de ((js.drop d).take 2))) - (d + 2))))⟩] rfl rfl (by decide) (by simp only [List.length_cons, List.length_nil]; omega) (by simp only [List.length_cons, List.length_nil]; omega) fun x42 hx42 => ?_
        refine sq_r (ry_assign rfl) ?_
        refine sq_nil ?_
        refine ex_then ?_
        refine cw_region ?_
        refine sq_r (ry_move rfl) ?_
        refine sq_r (ry_assign rfl) ?_
        refine sq_nil ?_
        refine ex_block ?_
        exact ex_again (x := (d, a)) (d + 2 + (de ((js.drop d).take 2)), x42) ⟨by first | omega | (simp only []; omega), by rw [lc_snoc hx42, part_raw]; exact allJ_step hi2 hl1 hl2 hre, by rw [hx42, List.length_append]; simp only [List.length_cons, List.length_nil]; omega⟩ (by simp only; omega) (Sub.cons rfl (Sub.cons rfl (Sub.cons rfl (Sub.nil _)))) (fun w hw => Keep.mem hw)
  · try simp only [Bool.and_eq_true, Bool.or_eq_true, Bool.and_eq_false_iff, Bool.or_eq_false_iff, Bool.not_eq_true', Bool.not_eq_false', decide_eq_true_eq, decide_eq_false_iff_not, Bool.not_eq_true, Bool.not_eq_false] at h0
    have hz : allJ js = (lc a, d) := by rw [hi2, allJ_short (by rw [List.length_drop]; omega), List.append_nil]; rfl
    refine cw_exit ?_
    refine ex_pass_exit ?_
    refine ex_pass_exit ?_
    refine ex_block_hit ?_
    refine ex_then ?_
    refine cw_seq ?_
    refine cw_region ?_
    refine sq_r (ry_move rfl) ?_
    refine sq_r (ry_move rfl) ?_
    refine sq_r (ry_assign rfl) ?_
    refine sq_r (ry_assign rfl) ?_
    refine sq_nil ?_
    refine ex_then ?_
    refine cw_ret ?_
    refine ex_ret (.inl rfl) (res_2 rfl (rv_tmp rfl) (rv_tmp rfl)) (fun w1 hw => ?_)
    exact ⟨a, by rw [hz], by rw [hz], Keep.mem hw⟩
instance jall_i {w0 : World} {L : List Ent} {j : Sv} {js : List UInt8} [hj : HdE w0 L benc 1 j js] : FnC Try.prog 60 w0 L [j.val] (Sl (Sl Ch)) (fun zz => .tuple #[zz.sv.val, .int .i64 (((allJ js).2) : Nat)]) (fun zz => Deep.ent zz :: L) (fun zz => lc zz = (allJ js).1) (js.length ≤ 1000000) := ⟨fun hp w hw => (jall_c w j js (hj.h w hw) hp).mono fun e w' ⟨x, h1, h2, h3⟩ => ⟨x, h1, h2, hw.call h3⟩⟩
set_option maxRecDepth 20000 in
theorem jplay_c (w : World) (t : Sv) (ts : List Rt) (j : Sv) (js : List UInt8) (ht : Lies rcells 19 (hp w) t ts) (hj : Lies benc 1 (hp w) j js) (hpre : ts.length ≤ 1000000 ∧ js.length ≤ 1000000) : Calls Try.prog 62 #[t.val, j.val] w fun e w' => ∃ zz : Sv, e = .returned (.tuple #[zz.val, .int .i64 (((playV ts js).2.1) : Nat), .int .i64 ((playV ts js).2.2)]) ∧ (True) ∧ Mem w [own rcells 19 zz ((playV ts js).1)] w' := by
  have ght : Gv w t rcells 19 ts := ⟨ht⟩
  have ghj : Gv w j benc 1 js := ⟨hj⟩
  obtain ⟨hp1, hp2⟩ := hpre
  refine calls_of (args := [_, _]) Try.func62 rfl Try.ntmps62 rfl ?_
  change Cw _ _ _ _ _ [(0, t.val), (1, j.val)] []
  refine cw_seq ?_
  refine cw_region ?_
  refine sq_r (ry_assign rfl) ?_
  refine sq_r (ry_assign rfl) ?_
  refine sq_r (ry_assign rfl) ?_
  refine sq_nil ?_
  refine ex_then ?_
  refine cw_seq ?_
  refine cw_region ?_
  refine sq_r (ry_move rfl) ?_
  refine sq_callC rfl (by omega) fun x14 hp14 => ?_
  refine sq_r (ry_assign rfl) ?_
  refine sq_nil ?_
  refine ex_then ?_
  refine cw_seq ?_
  refine cw_seq ?_
  refine cw_region ?_
  refine sq_r (ry_move rfl) ?_
  refine sq_y (yl_callC rfl trivial) ?_
  refine sq_r (ry_not rfl) ?_
  refine sq_nil ?_
  refine ex_then ?_
  refine cw_cond rfl (fun h0 => ?_) (fun h0 => ?_)
  · try simp only [Bool.and_eq_true, Bool.or_eq_true, Bool.and_eq_false_iff, Bool.or_eq_false_iff, Bool.not_eq_true', Bool.not_eq_false', decide_eq_true_eq, decide_eq_false_iff_not, Bool.not_eq_true, Bool.not_eq_false] at h0
    have hz : playV ts js = (ts, 0, 1) := if_neg (by rw [h0]; simp)
    refine cw_seq ?_
    refine cw_region ?_
    refine sq_r (ry_move rfl) ?_
    refine sq_r (ry_assign rfl) ?_
    refine sq_r (ry_assign rfl) ?_
    refine sq_r (ry_assign rfl) ?_
    refine sq_nil ?_
    refine ex_then ?_
    refine cw_ret ?_
    refine ex_pass_ret ?_
    refine ex_ret (.inl rfl) (res_3 rfl (rv_tmp rfl) (rv_tmp rfl) (rv_tmp rfl)) (fun w1 hw => ?_)
    exact ⟨x14, by rw [hz]; rfl, trivial, by rw [hz]; exact Keep.mem hw⟩
  · try simp only [Bool.and_eq_true, Bool.or_eq_true, Bool.and_eq_false_iff, Bool.or_eq_false_iff, Bool.not_eq_true', Bool.not_eq_false', decide_eq_true_eq, decide_eq_false_iff_not, Bool.not_eq_true, Bool.not_eq_false] at h0
    have hr : tright ts = true := h0
    refine cw_skip ?_
    refine ex_then ?_
    refine cw_seq ?_
    refine cw_region ?_
    refine sq_r (ry_move rfl) ?_
    refine sq_callC rfl (by omega) fun x21 hp21 => ?_
    have hp21 : lc x21 = (allJ js).1 := hp21
    have hx21 : x21.xs.length ≤ js.length := by rw [← lc_length, hp21]; exact allJ_many js
    refine sq_r (ry_move rfl) ?_
    refine sq_r (ry_extract (v := x21.sv.val) rfl rfl) ?_
    refine sq_r (ry_extract (v := .int .i64 (((allJ js).2) : Nat)) rfl rfl) ?_
    refine sq_r (ry_assign rfl) ?_
    refine sq_r (ry_assign rfl) ?_
    refine sq_nil ?_
    refine ex_then ?_
    refine cw_seq ?_
    refine cw_seq ?_
    refine cw_region ?_
    refine sq_r (ry_move rfl) ?_
    refine sq_r (ry_lenH rfl) ?_
    refine sq_r (ry_move rfl) ?_
    refine sq_nil ?_
    refine ex_then ?_
    refine cw_block ?_
    refine cw_loop (X := Nat × Sv × List Rt) (fun zz => [(26, .int .i64 (zz.1 : Nat)), (0, zz.2.1.val), (7, x21.sv.val), (24, x21.sv.val), (25, .int .i64 (x21.xs.length : Nat))]) (fun zz => [own rcells 19 zz.2.1 zz.2.2, Deep.ent x21]) (fun zz => zz.1 ≤ x21.xs.length ∧ playF ts ((lc x21).take zz.1) = (zz.2.2, zz.1, 0) ∧ tright zz.2.2 = true) (fun zz => x21.xs.length - zz.1) (0, x14, ts) ⟨Nat.zero_le _, by rw [List.take_zero]; rfl, hr⟩ (Sub.cons rfl (Sub.cons rfl (Sub.cons rfl (Sub.cons rfl (Sub.cons rfl (Sub.nil _)))))) (fun w hw => Keep.mem hw) ?_
    rintro ⟨i, s1, q⟩ ⟨hi1, hi2, hi3⟩
    dsimp only
    simp only at hi1 hi2 hi3
    have hq := tr_len hi3
    refine cw_seq ?_
    refine cw_region ?_
    refine sq_r (ry_int rfl rfl rfl) ?_
    refine sq_nil ?_
    refine ex_then ?_
    refine cw_seq ?_
    refine cw_cond rfl (fun h1 => ?_) (fun h1 => ?_)
    · try simp only [Bool.and_eq_true, Bool.or_eq_true, Bool.and_eq_false_iff, Bool.or_eq_false_iff, Bool.not_eq_true', Bool.not_eq_false', decide_eq_true_eq, decide_eq_false_iff_not, Bool.not_eq_true, Bool.not_eq_false] at h1
      refine cw_skip ?_
      refine ex_then ?_
      refine cw_seq ?_
      refine cw_block ?_
      refine cw_seq ?_
      refine cw_region ?_
      refine sq_r (ry_move rfl) ?_
      obtain ⟨g, hg⟩ := get_some (xs := x21.xs) (i := i) (by omega)
      refine sq_r (ry_idxH rfl rfl i rfl (by omega)) ?_
      refine sq_r (ry_elemcH (j := 0) rfl i hg rfl (by decide)) ?_
      have mb30 : Mb g _ := ⟨List.mem_of_getElem? hg⟩
      refine sq_r (ry_assign rfl) ?_
      refine sq_r (ry_assign rfl) ?_
      refine sq_nil ?_
      refine ex_then ?_
      refine cw_seq ?_
      refine cw_region ?_
      refine sq_r (ry_move rfl) ?_
      refine sq_r (ry_move rfl) ?_
      refine sq_callC rfl (by omega) fun x34 hp34 => ?_
      refine sq_r (ry_move rfl) ?_
      refine sq_r (ry_extract (v := x34.val) rfl rfl) ?_
      refine sq_r (ry_extract (v := .int .i64 (appE q g.xs)) rfl rfl) ?_
      refine sq_r (ry_assign rfl) ?_
      refine sq_r (ry_assign rfl) ?_
      refine sq_nil ?_
      refine ex_then ?_
      refine cw_seq ?_
      refine cw_seq ?_
      refine cw_region ?_
      refine sq_r (ry_move rfl) ?_
      refine sq_r (ry_int rfl rfl rfl) ?_
      refine sq_nil ?_
      refine ex_then ?_
      refine cw_cond rfl (fun h2 => ?_) (fun h2 => ?_)
      · try simp only [Bool.and_eq_true, Bool.or_eq_true, Bool.and_eq_false_iff, Bool.or_eq_false_iff, Bool.not_eq_true', Bool.not_eq_false', decide_eq_true_eq, decide_eq_false_iff_not, Bool.not_eq_true, Bool.not_eq_false] at h2
        have hz : playV ts js = (q, i, appE q g.xs) := by rw [playV, if_pos hr, ← hp21, playF_end (g := g.xs) hi2 (by simp [lc, hg]) h2]
        refine cw_seq ?_
        refine cw_region ?_
        refine sq_r (ry_move rfl) ?_
        refine sq_r (ry_move rfl) ?_
        refine sq_r (ry_move rfl) ?_
        refine sq_r (ry_assign rfl) ?_
        refine sq_r (ry_assign rfl) ?_
        refine sq_r (ry_assign rfl) ?_
        refine sq_nil ?_
        refine ex_then ?_
        refine cw_ret ?_
        refine ex_pass_ret ?_
        refine ex_block_ret ?_
        refine ex_pass_ret ?_
        refine ex_pass_ret ?_
        refine ex_block_ret ?_
        refine ex_pass_ret ?_
        refine ex_ret (.inl rfl) (res_3 rfl (rv_tmp rfl) (rv_tmp rfl) (rv_tmp rfl)) (fun w1 hw => ?_)
        exact ⟨s1, by rw [hz], trivial, by rw [hz]; exact Keep.mem hw⟩
      · try simp only [Bool.and_eq_true, Bool.or_eq_true, Bool.and_eq_false_iff, Bool.or_eq_false_iff, Bool.not_eq_true', Bool.not_eq_false', decide_eq_true_eq, decide_eq_false_iff_not, Bool.not_eq_true, Bool.not_eq_false] at h2
        refine cw_skip ?_
        refine ex_then ?_
        refine cw_region ?_
        refine sq_r (ry_move rfl) ?_
        refine sq_r (ry_assign rfl) ?_
        refine sq_nil ?_
        refine ex_block ?_
        refine ex_then ?_
        refine cw_region ?_
        refine sq_r (ry_add rfl rfl (by omega)) ?_
        refine sq_r (ry_move rfl) ?_
        refine sq_nil ?_
        exact ex_again (x := (i, s1, q)) (i + 1, x34, appL q g.xs) ⟨by first | omega | (simp only []; omega), by rw [playF_step (g := g.xs) hi2 (by simp [lc, hg]), if_pos h2], appL_right hi3 _⟩ (by simp only; omega) (Sub.cons rfl (Sub.cons rfl (Sub.cons rfl (Sub.cons rfl (Sub.cons rfl (Sub.nil _)))))) (fun w hw => Keep.mem hw)
    · try simp only [Bool.and_eq_true, Bool.or_eq_true, Bool.and_eq_false_iff, Bool.or_eq_false_iff, Bool.not_eq_true', Bool.not_eq_false', decide_eq_true_eq, decide_eq_false_iff_not, Bool.not_eq_true, Bool.not_eq_false] at h1
      obtain rfl : i = x21.xs.length := by omega
      rw [List.take_of_length_le (by rw [lc, List.length_map]; exact Nat.le_refl _)] at hi2
      have hz : playV ts js = (q, x21.xs.length, 0) := by rw [playV, if_pos hr, ← hp21, hi2]
      refine cw_exit ?_
      refine ex_pass_exit ?_
      refine ex_pass_exit ?_
      refine ex_block_hit ?_
      refine ex_then ?_
      refine cw_seq ?_
      refine cw_region ?_
      refine sq_r (ry_move rfl) ?_
      refine sq_r (ry_move rfl) ?_
      refine sq_r (ry_lenH rfl) ?_
      refine sq_r (ry_assign rfl) ?_
      refine sq_r (ry_assign rfl) ?_
      refine sq_r (ry_assign rfl) ?_
      refine sq_nil ?_
      refine ex_then ?_
      refine cw_ret ?_
      refine ex_ret (.inl rfl) (res_3 rfl (rv_tmp rfl) (rv_tmp rfl) (rv_tmp rfl)) (fun w1 hw => ?_)
      exact ⟨s1, by rw [hz], trivial, by rw [hz]; exact Keep.mem hw⟩
instance jplay_i {w0 : World} {L : List Ent} {t : Sv} {ts : List Rt} {j : Sv} {js : List UInt8} [ht : HdE w0 L rcells 19 t ts] [hj : HdE w0 L benc 1 j js] : FnC Try.prog 62 w0 L [t.val, j.val] (Sv) (fun zz => .tuple #[zz.val, .int .i64 (((playV ts js).2.1) : Nat), .int .i64 ((playV ts js).2.2)]) (fun zz => own rcells 19 zz ((playV ts js).1) :: L) (fun zz => True) (ts.length ≤ 1000000 ∧ js.length ≤ 1000000) := ⟨fun hp w hw => (jplay_c w t ts j js (ht.h w hw) (hj.h w hw) hp).mono fun e w' ⟨x, h1, h2, h3⟩ => ⟨x, h1, h2, hw.call h3⟩⟩

end Go.Proofs.Ytajhlgdapiihgaa

/- Tables by the reference: walked. -/
set_option linter.unusedSimpArgs false
set_option linter.unusedVariables false
namespace Go.Proofs.Ytajhlgdapiihgaa
open Go.Eng Go.Kb

theorem partCB (d : Nat) : PartT Try.prog (d + 1) 4 false [1] := ⟨⟨_, Try.underlying4, rfl⟩, by kernel_rfl, fun _ => rfl, eqF_bool Try.underlying4⟩
theorem stoodC : Try.prog.stoodInHeld 72 = false := by kernel_rfl
theorem partC (d : Nat) : PartT Try.prog (d + 1 + 1 + 1 + 1 + 1) 72 true ((([0] ++ ([0] ++ ((List.replicate 16 [0]).flatten ++ []))) ++ ([0] ++ [])) ++ ([1] ++ [])) := ⟨⟨_, Try.underlying72, rfl⟩, by kernel_rfl, (fun h => by cases h),
  eqF_struct Try.underlying72 stoodC ⟨by decide, rfl, _, _, _, rfl, partR d, by decide, rfl, _, _, _, rfl, partCB _, rfl⟩⟩
theorem guardC : Try.prog.eqGuardType Try.prog.depth 72 = false := by kernel_rfl
instance (a b : Ch) : EqV Try.prog 72 (.agg (chcells a)) (.agg (chcells b)) (decide (a = b)) :=
  (partC 9995).eq.val rfl guardC (chcells_size a) (chcells_size b) (fun i k hk => by
    have hi : i < 20 := (List.getElem?_eq_some_iff.1 hk).1
    rcases Nat.lt_or_ge i 19 with h | h
    · have h0 : k = 0 := by
        rw [List.getElem?_append_left (by exact h)] at hk
        have : k ∈ (([0] ++ ([0] ++ ((List.replicate 16 [0]).flatten ++ []))) ++ ([0] ++ [])) := List.mem_of_getElem? hk
        simpa using this
      subst h0
      match i, h with
      | 0, _ => exact ⟨_, _, (inferInstance : CellAt (chcells a) 0 _).h, (inferInstance : CellAt (chcells b) 0 _).h, rfl⟩
      | 1, _ => exact ⟨_, _, (inferInstance : CellAt (chcells a) 1 _).h, (inferInstance : CellAt (chcells b) 1 _).h, rfl⟩
      | j + 2, h =>
        rcases Nat.lt_or_ge j 16 with h2 | h2
        · rw [Nat.add_comm j 2]
          exact ⟨_, _, (chcells_r a _ (by omega)).trans ((rcells_p a.r _ (by omega)).trans ((pcells_k a.r.p j).trans (kcells_get _ j h2))), (chcells_r b _ (by omega)).trans ((rcells_p b.r _ (by omega)).trans ((pcells_k b.r.p j).trans (kcells_get _ j h2))), rfl⟩
        · obtain rfl : j = 16 := by omega
          exact ⟨_, _, (chcells_r a 18 (by decide)).trans (rcells_hop a.r), (chcells_r b 18 (by decide)).trans (rcells_hop b.r), rfl⟩
    · obtain rfl : i = 19 := by omega
      have h0 : k = 1 := by simpa using hk.symm
      subst h0
      exact ⟨_, _, chcells_g a, chcells_g b, trivial⟩) (by rw [decide_eq_true_iff]; exact ⟨chcells_inj, fun h => by rw [h]⟩)
set_option maxRecDepth 20000 in
theorem r3get_c (w : World) (t : Sv) (ts : List Rt) (p : Pfx) (ht : Lies rcells 19 (hp w) t ts) : Calls Try.prog 142 #[t.val, .agg (pcells p)] w fun e w' => e = .returned (.tuple #[.int .u16 ((rgetH ts p).toNat : Nat), .int .i64 (rgetE ts p)]) ∧ Mem w [] w' := by
  have ght : Gv w t rcells 19 ts := ⟨ht⟩
  have htb := ht.bd
  refine calls_of (args := [_, _]) Try.func142 rfl Try.ntmps142 rfl ?_
  change Cw _ _ _ _ _ [(0, t.val), (1, .agg (pcells p))] []
  refine cw_seq ?_
  refine cw_region ?_
  refine sq_boxA rfl fun b3 => ?_
  refine sq_r (ry_assign rfl) ?_
  refine sq_r (ry_assign rfl) ?_
  refine sq_nil ?_
  refine ex_then ?_
  refine cw_seq ?_
  refine cw_seq ?_
  refine cw_region ?_
  refine sq_r (ry_whole rfl) ?_
  refine sq_y (yl_callC rfl trivial) ?_
  refine sq_r (ry_not rfl) ?_
  refine sq_nil ?_
  refine ex_then ?_
  refine cw_cond rfl (fun h0 => ?_) (fun h0 => ?_)
  · try simp only [Bool.and_eq_true, Bool.or_eq_true, Bool.and_eq_false_iff, Bool.or_eq_false_iff, Bool.not_eq_true', Bool.not_eq_false', decide_eq_true_eq, decide_eq_false_iff_not, Bool.not_eq_true, Bool.not_eq_false] at h0
    have hz := rget_bad (t := ts) (q := p) h0
    refine cw_seq ?_
    refine cw_region ?_
    refine sq_r (ry_assign rfl) ?_
    refine sq_r (ry_assign rfl) ?_
    refine sq_nil ?_
    refine ex_then ?_
    refine cw_ret ?_
    refine ex_pass_ret ?_
    refine ex_ret (.inl rfl) (res_2 rfl (rv_tmp rfl) (rv_tmp rfl)) (fun w1 hw => ?_)
    exact ⟨by rw [hz.1, hz.2]; rfl, Keep.mem hw⟩
  · try simp only [Bool.and_eq_true, Bool.or_eq_true, Bool.and_eq_false_iff, Bool.or_eq_false_iff, Bool.not_eq_true', Bool.not_eq_false', decide_eq_true_eq, decide_eq_false_iff_not, Bool.not_eq_true, Bool.not_eq_false] at h0
    have hm : pmay p = true := h0
    refine cw_skip ?_
    refine ex_then ?_
    refine cw_seq ?_
    refine cw_seq ?_
    refine cw_region ?_
    refine sq_r (ry_assign rfl) ?_
    refine sq_nil ?_
    refine ex_then ?_
    refine cw_block ?_
    refine cw_loop (X := Nat) (fun zz => [(6, .int .i64 (zz : Nat)), (0, t.val), (3, .pointer (some ⟨b3, 0, none⟩))]) (fun zz => [blk b3 (pcells p) 26]) (fun zz => zz ≤ ts.length ∧ ∀ x ∈ ts.take zz, x.p ≠ p) (fun zz => ts.length - zz) 0 ⟨Nat.zero_le _, by simp⟩ (Sub.cons rfl (Sub.cons rfl (Sub.cons rfl (Sub.nil _)))) (fun w hw => Keep.mem hw) ?_
    rintro i ⟨hi1, hi2⟩
    refine cw_seq ?_
    refine cw_seq ?_
    refine cw_region ?_
    refine sq_r (ry_move rfl) ?_
    refine sq_r (ry_move rfl) ?_
    refine sq_r (ry_lenH rfl) ?_
    refine sq_r (ry_int rfl rfl rfl) ?_
    refine sq_nil ?_
    refine ex_then ?_
    refine cw_cond rfl (fun h1 => ?_) (fun h1 => ?_)
    · try simp only [Bool.and_eq_true, Bool.or_eq_true, Bool.and_eq_false_iff, Bool.or_eq_false_iff, Bool.not_eq_true', Bool.not_eq_false', decide_eq_true_eq, decide_eq_false_iff_not, Bool.not_eq_true, Bool.not_eq_false] at h1
      obtain ⟨e, he⟩ := get_some (xs := ts) (i := i) (by omega)
      refine cw_skip ?_
      refine ex_then ?_
      refine cw_seq ?_
      refine cw_block ?_
      refine cw_seq ?_
      refine cw_quiet (by kernel_rfl) (by kernel_rfl) ?_
      refine qt_r (ry_move rfl) ?_
      refine qt_r (ry_move rfl) ?_
      refine qt_r (ry_idxH rfl rfl i rfl (by omega)) ?_
      refine qt_r (ry_field rfl rfl) ?_
      refine qt_r (ry_elempH (j := 0) rfl i he rfl (by decide)) ?_
      refine qt_r (ry_whole rfl) ?_
      refine qt_r (ry_eq rfl rfl) ?_
      refine qt_nil ?_
      refine ex_then ?_
      refine cw_cond rfl (fun h2 => ?_) (fun h2 => ?_)
      · try simp only [Bool.and_eq_true, Bool.or_eq_true, Bool.and_eq_false_iff, Bool.or_eq_false_iff, Bool.not_eq_true', Bool.not_eq_false', decide_eq_true_eq, decide_eq_false_iff_not, Bool.not_eq_true, Bool.not_eq_false] at h2
        have hz := rget_hit hm hi2 he h2
        refine cw_seq ?_
        refine cw_region ?_
        refine sq_r (ry_move rfl) ?_
        refine sq_r (ry_move rfl) ?_
        refine sq_r (ry_idxH rfl rfl i rfl (by omega)) ?_
        refine sq_r (ry_field rfl rfl) ?_
        refine sq_r (ry_elemcH (j := 18) rfl i he rfl (by decide)) ?_
        refine sq_r (ry_assign rfl) ?_
        refine sq_r (ry_assign rfl) ?_
        refine sq_nil ?_
        refine ex_then ?_
        refine cw_ret ?_
        refine ex_block_ret ?_
        refine ex_pass_ret ?_
        refine ex_pass_ret ?_
        refine ex_block_ret ?_
        refine ex_pass_ret ?_
        refine ex_ret (.inl rfl) (res_2 rfl (rv_tmp rfl) (rv_tmp rfl)) (fun w1 hw => ?_)
        exact ⟨by rw [hz.1, hz.2], Keep.mem hw⟩
      · try simp only [Bool.and_eq_true, Bool.or_eq_true, Bool.and_eq_false_iff, Bool.or_eq_false_iff, Bool.not_eq_true', Bool.not_eq_false', decide_eq_true_eq, decide_eq_false_iff_not, Bool.not_eq_true, Bool.not_eq_false] at h2
        refine cw_skip ?_
        refine ex_block ?_
        refine ex_then ?_
        refine cw_region ?_
        refine sq_r (ry_move rfl) ?_
        refine sq_r (ry_add rfl rfl (by omega)) ?_
        refine sq_r (ry_assign rfl) ?_
        refine sq_nil ?_
        exact ex_again (x := (i)) (i + 1) ⟨by first | omega | (simp only []; omega), take_succ_all hi2 he h2⟩ (by first | omega | (simp only []; omega)) (Sub.cons rfl (Sub.cons rfl (Sub.cons rfl (Sub.nil _)))) (fun w hw => Keep.mem hw)
    · try simp only [Bool.and_eq_true, Bool.or_eq_true, Bool.and_eq_false_iff, Bool.or_eq_false_iff, Bool.not_eq_true', Bool.not_eq_false', decide_eq_true_eq, decide_eq_false_iff_not, Bool.not_eq_true, Bool.not_eq_false] at h1
      obtain rfl : i = ts.length := by omega
      have hz := rget_no hm (fun x hx => hi2 x (by rw [List.take_length]; exact hx))
      refine cw_exit ?_
      refine ex_pass_exit ?_
      refine ex_pass_exit ?_
      refine ex_block_hit ?_
      refine ex_then ?_
      refine cw_seq ?_
      refine cw_region ?_
      refine sq_r (ry_assign rfl) ?_
      refine sq_r (ry_assign rfl) ?_
      refine sq_nil ?_
      refine ex_then ?_
      refine cw_ret ?_
      refine ex_ret (.inl rfl) (res_2 rfl (rv_tmp rfl) (rv_tmp rfl)) (fun w1 hw => ?_)
      exact ⟨by rw [hz.1, hz.2]; rfl, Keep.mem hw⟩
instance r3get_i {w0 : World} {L : List Ent} {t : Sv} {ts : List Rt} {p : Pfx} [ht : HdE w0 L rcells 19 t ts] : FnQ Try.prog 142 w0 L [t.val, .agg (pcells p)] (.tuple #[.int .u16 ((rgetH ts p).toNat : Nat), .int .i64 (rgetE ts p)]) (True) := ⟨fun hp w hw => r3get_c w t ts p (ht.h w hw)⟩
set_option maxRecDepth 20000 in
theorem r3put_c (w : World) (t : Sv) (ts : List Rt) (r : Rt) (ht : Lies rcells 19 (hp w) t ts) (hpre : ts.length ≤ 100000) : Calls Try.prog 143 #[t.val, .agg (rcells r)] w fun e w' => ∃ zz : Sv, e = .returned (zz.val) ∧ (True) ∧ Mem w [own rcells 19 zz (putF r ts false)] w' := by
  have ght : Gv w t rcells 19 ts := ⟨ht⟩
  refine calls_of (args := [_, _]) Try.func143 rfl Try.ntmps143 rfl ?_
  change Cw _ _ _ _ _ [(0, t.val), (1, .agg (rcells r))] []
  refine cw_seq ?_
  refine cw_region ?_
  refine sq_boxA rfl fun b3 => ?_
  refine sq_r (ry_assign rfl) ?_
  refine sq_nil ?_
  refine ex_then ?_
  refine cw_seq ?_
  refine cw_region ?_
  refine sq_r (ry_assign rfl) ?_
  refine sq_nil ?_
  refine ex_then ?_
  refine cw_seq ?_
  refine cw_region ?_
  refine sq_r (ry_assign rfl) ?_
  refine sq_nil ?_
  refine ex_then ?_
  refine cw_seq ?_
  refine cw_seq ?_
  refine cw_region ?_
  refine sq_r (ry_assign rfl) ?_
  refine sq_nil ?_
  refine ex_then ?_
  refine cw_block ?_
  refine cw_loop (X := Nat × Sv × List Rt × Bool) (fun zz => [(7, .int .i64 (zz.1 : Nat)), (5, zz.2.1.val), (6, .bool zz.2.2.2), (0, t.val), (3, .pointer (some ⟨b3, 0, none⟩))]) (fun zz => [own rcells 19 zz.2.1 zz.2.2.1, blk b3 (rcells r) 30]) (fun zz => zz.1 ≤ ts.length ∧ putF r ts false = zz.2.2.1 ++ putF r (ts.drop zz.1) zz.2.2.2 ∧ zz.2.2.1.length ≤ 2 * zz.1) (fun zz => ts.length - zz.1) (0, Sv.none, [], false) ⟨Nat.zero_le _, rfl, Nat.le_refl _⟩ (Sub.cons rfl (Sub.cons rfl (Sub.cons rfl (Sub.cons rfl (Sub.cons rfl (Sub.nil _)))))) (fun w hw => Mem.nilOwn rcells 19 (Keep.mem hw)) ?_
  rintro ⟨i, o, q, dn⟩ ⟨hi1, hi2, hi3⟩
  dsimp only
  simp only at hi1 hi2 hi3
  refine cw_seq ?_
  refine cw_seq ?_
  refine cw_region ?_
  refine sq_r (ry_move rfl) ?_
  refine sq_r (ry_move rfl) ?_
  refine sq_r (ry_lenH rfl) ?_
  refine sq_r (ry_int rfl rfl rfl) ?_
  refine sq_nil ?_
  refine ex_then ?_
  refine cw_cond rfl (fun h0 => ?_) (fun h0 => ?_)
  · try simp only [Bool.and_eq_true, Bool.or_eq_true, Bool.and_eq_false_iff, Bool.or_eq_false_iff, Bool.not_eq_true', Bool.not_eq_false', decide_eq_true_eq, decide_eq_false_iff_not, Bool.not_eq_true, Bool.not_eq_false] at h0
    obtain ⟨e, he⟩ := get_some (xs := ts) (i := i) (by omega)
    refine cw_skip ?_
    refine ex_then ?_
    refine cw_seq ?_
    refine cw_block ?_
    refine cw_seq ?_
    refine cw_seq ?_
    refine cw_quiet (by kernel_rfl) (by kernel_rfl) ?_
    refine qt_r (ry_move rfl) ?_
    refine qt_r (ry_not rfl) ?_
    refine qt_r (ry_move rfl) ?_
    refine qt_gt rfl rfl rfl (fun hg => (Ry.yl (ry_move rfl))) ?_
    refine qt_gt rfl rfl rfl (fun hg => (Ry.yl (ry_move rfl))) ?_
    refine qt_gt rfl rfl rfl (fun hg => (Ry.yl (ry_idxH (ev_c hg rfl) (ev_c hg rfl) i rfl (by simp only [Bool.and_eq_true, Bool.or_eq_true, Bool.and_eq_false_iff, Bool.or_eq_false_iff, Bool.not_eq_true', Bool.not_eq_false', decide_eq_true_eq, decide_eq_false_iff_not, Bool.not_eq_true, Bool.not_eq_false] at hg; omega)))) ?_
    refine qt_gt rfl rfl rfl (fun hg => (Ry.yl (ry_field (ev_c hg rfl) rfl))) ?_
    refine qt_gt rfl rfl rfl (fun hg => (Ry.yl (ry_elempH (j := 0) (ev_c hg rfl) i he rfl (by decide)))) ?_
    refine qt_gt rfl rfl rfl (fun hg => (Ry.yl (ry_field (o' := 0) rfl rfl))) ?_
    refine qt_gt rfl rfl rfl (fun hg => (Ry.yl (ry_part (ev_c hg rfl)))) ?_
    refine qt_gt rfl rfl rfl (fun hg => yl_callC (evl_cons (ev_c hg rfl) (evl_cons (ev_c hg rfl) evl_nil)) trivial) ?_
    refine qt_gt rfl rfl rfl (fun hg => (Ry.yl (ry_not (ev_c hg rfl)))) ?_
    refine qt_r (ry_and rfl rfl rfl) ?_
    refine qt_nil ?_
    refine ex_then ?_
    refine cw_cond rfl (fun h1 => ?_) (fun h1 => ?_)
    · try simp only [Bool.and_eq_true, Bool.or_eq_true, Bool.and_eq_false_iff, Bool.or_eq_false_iff, Bool.not_eq_true', Bool.not_eq_false', decide_eq_true_eq, decide_eq_false_iff_not, Bool.not_eq_true, Bool.not_eq_false] at h1
      obtain ⟨h1a, h1b⟩ := h1
      refine cw_seq ?_
      refine cw_region ?_
      refine sq_r (ry_move rfl) ?_
      refine sq_r (ry_whole rfl) ?_
      refine sq_buildSlice (enc := rcells) (vals := [_]) [r] rfl rfl rfl (by decide) (by decide) fun b29 => ?_
      refine sq_append (s := o) (ys := [r]) rfl rfl (by decide) (fun w hw => src_rows (s := ⟨false, b29, 0, 1, 1, none⟩) Try.underlying22 (by decide) ((inferInstance : Hd _ _ ⟨false, b29, 0, 1, 1, none⟩ rcells 19 [r]).h w hw)) (by simp only [List.length_cons, List.length_nil]; omega) (by simp only [List.length_cons, List.length_nil]; omega) fun s30 hs30 hl30 => ?_
      refine sq_r (ry_assign rfl) ?_
      refine sq_nil ?_
      refine ex_then ?_
      refine cw_region ?_
      refine sq_r (ry_assign rfl) ?_
      refine sq_nil ?_
      refine ex_then ?_
      refine cw_seq ?_
      refine cw_quiet (by kernel_rfl) (by kernel_rfl) ?_
      refine qt_r (ry_move rfl) ?_
      refine qt_r (ry_move rfl) ?_
      refine qt_r (ry_idxH rfl rfl i rfl (by omega)) ?_
      refine qt_r (ry_field rfl rfl) ?_
      refine qt_r (ry_elempH (j := 0) rfl i he rfl (by decide)) ?_
      refine qt_r (ry_field (o' := 0) rfl rfl) ?_
      refine qt_r (ry_part rfl) ?_
      refine qt_r (ry_ne rfl rfl) ?_
      refine qt_nil ?_
      refine ex_then ?_
      refine cw_cond rfl (fun h2 => ?_) (fun h2 => ?_)
      · try simp only [Bool.and_eq_true, Bool.or_eq_true, Bool.and_eq_false_iff, Bool.or_eq_false_iff, Bool.not_eq_true', Bool.not_eq_false', decide_eq_true_eq, decide_eq_false_iff_not, Bool.not_eq_true, Bool.not_eq_false] at h2
        refine cw_region ?_
        refine sq_r (ry_move rfl) ?_
        refine sq_r (ry_move rfl) ?_
        refine sq_r (ry_move rfl) ?_
        refine sq_r (ry_idxH rfl rfl i rfl (by omega)) ?_
        refine sq_r (ry_elemH rfl i he rfl) ?_
        refine sq_buildSlice (enc := rcells) (vals := [_]) [e] rfl rfl rfl (by decide) (by decide) fun b44 => ?_
        refine sq_append (s := s30) (ys := [e]) rfl rfl (by decide) (fun w hw => src_rows (s := ⟨false, b44, 0, 1, 1, none⟩) Try.underlying22 (by decide) ((inferInstance : Hd _ _ ⟨false, b44, 0, 1, 1, none⟩ rcells 19 [e]).h w hw)) (by simp only [List.length_append, List.length_cons, List.length_nil]; omega) (by simp only [List.length_append, List.length_cons, List.length_nil]; omega) fun s45 hs45 hl45 => ?_
        refine sq_r (ry_assign rfl) ?_
        refine sq_nil ?_
        refine ex_block ?_
        refine ex_then ?_
        refine cw_region ?_
        refine sq_r (ry_move rfl) ?_
        refine sq_r (ry_add rfl rfl (by omega)) ?_
        refine sq_r (ry_assign rfl) ?_
        refine sq_nil ?_
        exact ex_again (x := (i, o, q, dn)) (i + 1, s45, (q ++ [r]) ++ [e], true) ⟨by first | omega | (simp only []; omega), by rw [hi2, dropAt he, putF_yes h1a h1b, if_pos h2]; simp, by simp only [List.length_append, List.length_cons, List.length_nil]; omega⟩ (by simp only; omega) (Sub.cons rfl (Sub.cons rfl (Sub.cons rfl (Sub.cons rfl (Sub.cons rfl (Sub.nil _)))))) (fun w hw => Keep.mem hw)
      · try simp only [Bool.and_eq_true, Bool.or_eq_true, Bool.and_eq_false_iff, Bool.or_eq_false_iff, Bool.not_eq_true', Bool.not_eq_false', decide_eq_true_eq, decide_eq_false_iff_not, Bool.not_eq_true, Bool.not_eq_false] at h2
        refine cw_skip ?_
        refine ex_block ?_
        refine ex_then ?_
        refine cw_region ?_
        refine sq_r (ry_move rfl) ?_
        refine sq_r (ry_add rfl rfl (by omega)) ?_
        refine sq_r (ry_assign rfl) ?_
        refine sq_nil ?_
        exact ex_again (x := (i, o, q, dn)) (i + 1, s30, q ++ [r], true) ⟨by first | omega | (simp only []; omega), by rw [hi2, dropAt he, putF_yes h1a h1b, if_neg (fun hn => hn h2)]; simp, by simp only [List.length_append, List.length_cons, List.length_nil]; omega⟩ (by simp only; omega) (Sub.cons rfl (Sub.cons rfl (Sub.cons rfl (Sub.cons rfl (Sub.cons rfl (Sub.nil _)))))) (fun w hw => Keep.mem hw)
    · try simp only [Bool.and_eq_true, Bool.or_eq_true, Bool.and_eq_false_iff, Bool.or_eq_false_iff, Bool.not_eq_true', Bool.not_eq_false', decide_eq_true_eq, decide_eq_false_iff_not, Bool.not_eq_true, Bool.not_eq_false] at h1
      refine cw_skip ?_
      refine ex_then ?_
      refine cw_seq ?_
      refine cw_quiet (by kernel_rfl) (by kernel_rfl) ?_
      refine qt_r (ry_move rfl) ?_
      refine qt_r (ry_move rfl) ?_
      refine qt_r (ry_idxH rfl rfl i rfl (by omega)) ?_
      refine qt_r (ry_field rfl rfl) ?_
      refine qt_r (ry_elempH (j := 0) rfl i he rfl (by decide)) ?_
      refine qt_r (ry_field (o' := 0) rfl rfl) ?_
      refine qt_r (ry_part rfl) ?_
      refine qt_r (ry_ne rfl rfl) ?_
      refine qt_nil ?_
      refine ex_then ?_
      refine cw_cond rfl (fun h2 => ?_) (fun h2 => ?_)
      · try simp only [Bool.and_eq_true, Bool.or_eq_true, Bool.and_eq_false_iff, Bool.or_eq_false_iff, Bool.not_eq_true', Bool.not_eq_false', decide_eq_true_eq, decide_eq_false_iff_not, Bool.not_eq_true, Bool.not_eq_false] at h2
        refine cw_region ?_
        refine sq_r (ry_move rfl) ?_
        refine sq_r (ry_move rfl) ?_
        refine sq_r (ry_move rfl) ?_
        refine sq_r (ry_idxH rfl rfl i rfl (by omega)) ?_
        refine sq_r (ry_elemH rfl i he rfl) ?_
        refine sq_buildSlice (enc := rcells) (vals := [_]) [e] rfl rfl rfl (by decide) (by decide) fun b44 => ?_
        refine sq_append (s := o) (ys := [e]) rfl rfl (by decide) (fun w hw => src_rows (s := ⟨false, b44, 0, 1, 1, none⟩) Try.underlying22 (by decide) ((inferInstance : Hd _ _ ⟨false, b44, 0, 1, 1, none⟩ rcells 19 [e]).h w hw)) (by simp only [List.length_append, List.length_cons, List.length_nil]; omega) (by simp only [List.length_append, List.length_cons, List.length_nil]; omega) fun s45 hs45 hl45 => ?_
        refine sq_r (ry_assign rfl) ?_
        refine sq_nil ?_
        refine ex_block ?_
        refine ex_then ?_
        refine cw_region ?_
        refine sq_r (ry_move rfl) ?_
        refine sq_r (ry_add rfl rfl (by omega)) ?_
        refine sq_r (ry_assign rfl) ?_
        refine sq_nil ?_
        exact ex_again (x := (i, o, q, dn)) (i + 1, s45, q ++ [e], dn) ⟨by first | omega | (simp only []; omega), by rw [hi2, dropAt he, putF_no h1, if_pos h2]; simp, by simp only [List.length_append, List.length_cons, List.length_nil]; omega⟩ (by simp only; omega) (Sub.cons rfl (Sub.cons rfl (Sub.cons rfl (Sub.cons rfl (Sub.cons rfl (Sub.nil _)))))) (fun w hw => Keep.mem hw)
      · try simp only [Bool.and_eq_true, Bool.or_eq_true, Bool.and_eq_false_iff, Bool.or_eq_false_iff, Bool.not_eq_true', Bool.not_eq_false', decide_eq_true_eq, decide_eq_false_iff_not, Bool.not_eq_true, Bool.not_eq_false] at h2
        refine cw_skip ?_
        refine ex_block ?_
        refine ex_then ?_
        refine cw_region ?_
        refine sq_r (ry_move rfl) ?_
        refine sq_r (ry_add rfl rfl (by omega)) ?_
        refine sq_r (ry_assign rfl) ?_
        refine sq_nil ?_
        exact ex_again (x := (i, o, q, dn)) (i + 1, o, q, dn) ⟨by first | omega | (simp only []; omega), by rw [hi2, dropAt he, putF_no h1, if_neg (fun hn => hn h2)]; simp, by simp only [List.length_append, List.length_cons, List.length_nil]; omega⟩ (by simp only; omega) (Sub.cons rfl (Sub.cons rfl (Sub.cons rfl (Sub.cons rfl (Sub.cons rfl (Sub.nil _)))))) (fun w hw => Keep.mem hw)
  · try simp only [Bool.and_eq_true, Bool.or_eq_true, Bool.and_eq_false_iff, Bool.or_eq_false_iff, Bool.not_eq_true', Bool.not_eq_false', decide_eq_true_eq, decide_eq_false_iff_not, Bool.not_eq_true, Bool.not_eq_false] at h0
    obtain rfl : i = ts.length := by omega
    refine cw_exit ?_
    refine ex_pass_exit ?_
    refine ex_pass_exit ?_
    refine ex_block_hit ?_
    refine ex_then ?_
    refine cw_seq ?_
    refine cw_seq ?_
    refine cw_region ?_
    refine sq_r (ry_move rfl) ?_
    refine sq_r (ry_not rfl) ?_
    refine sq_nil ?_
    refine ex_then ?_
    refine cw_cond rfl (fun h3 => ?_) (fun h3 => ?_)
    · try simp only [Bool.and_eq_true, Bool.or_eq_true, Bool.and_eq_false_iff, Bool.or_eq_false_iff, Bool.not_eq_true', Bool.not_eq_false', decide_eq_true_eq, decide_eq_false_iff_not, Bool.not_eq_true, Bool.not_eq_false] at h3
      rw [h3, List.drop_length, putF, if_neg (by simp)] at hi2
      refine cw_region ?_
      refine sq_r (ry_move rfl) ?_
      refine sq_r (ry_whole rfl) ?_
      refine sq_buildSlice (enc := rcells) (vals := [_]) [r] rfl rfl rfl (by decide) (by decide) fun b50 => ?_
      refine sq_append (s := o) (ys := [r]) rfl rfl (by decide) (fun w hw => src_rows (s := ⟨false, b50, 0, 1, 1, none⟩) Try.underlying22 (by decide) ((inferInstance : Hd _ _ ⟨false, b50, 0, 1, 1, none⟩ rcells 19 [r]).h w hw)) (by simp only [List.length_cons, List.length_nil]; omega) (by simp only [List.length_cons, List.length_nil]; omega) fun s51 hs51 hl51 => ?_
      refine sq_r (ry_assign rfl) ?_
      refine sq_nil ?_
      refine ex_then ?_
      refine cw_seq ?_
      refine cw_region ?_
      refine sq_r (ry_move rfl) ?_
      refine sq_r (ry_assign rfl) ?_
      refine sq_nil ?_
      refine ex_then ?_
      refine cw_ret ?_
      refine ex_ret (.inl rfl) (res_1 rfl (rv_tmp rfl)) (fun w1 hw => ?_)
      exact ⟨s51, rfl, trivial, by rw [hi2]; exact Keep.mem hw⟩
    · try simp only [Bool.and_eq_true, Bool.or_eq_true, Bool.and_eq_false_iff, Bool.or_eq_false_iff, Bool.not_eq_true', Bool.not_eq_false', decide_eq_true_eq, decide_eq_false_iff_not, Bool.not_eq_true, Bool.not_eq_false] at h3
      rw [h3, List.drop_length, putF, if_pos rfl, List.append_nil] at hi2
      refine cw_skip ?_
      refine ex_then ?_
      refine cw_seq ?_
      refine cw_region ?_
      refine sq_r (ry_move rfl) ?_
      refine sq_r (ry_assign rfl) ?_
      refine sq_nil ?_
      refine ex_then ?_
      refine cw_ret ?_
      refine ex_ret (.inl rfl) (res_1 rfl (rv_tmp rfl)) (fun w1 hw => ?_)
      exact ⟨o, rfl, trivial, by rw [hi2]; exact Keep.mem hw⟩
instance r3put_i {w0 : World} {L : List Ent} {t : Sv} {ts : List Rt} {r : Rt} [ht : HdE w0 L rcells 19 t ts] : FnC Try.prog 143 w0 L [t.val, .agg (rcells r)] (Sv) (fun zz => zz.val) (fun zz => own rcells 19 zz (putF r ts false) :: L) (fun zz => True) (ts.length ≤ 100000) := ⟨fun hp w hw => (r3put_c w t ts r (ht.h w hw) hp).mono fun e w' ⟨x, h1, h2, h3⟩ => ⟨x, h1, h2, hw.call h3⟩⟩
set_option maxRecDepth 20000 in
theorem r3apply_c (w : World) (t : Sv) (ts : List Rt) (l : Sv) (ls : List Ch) (ht : Lies rcells 19 (hp w) t ts) (hl : Lies chcells 20 (hp w) l ls) (hpre : tright ts = true) : Calls Try.prog 113 #[t.val, l.val] w fun e w' => ∃ zz : Sv × Bool, e = .returned (.tuple #[zz.1.val, .int .i64 (appE ts ls)]) ∧ (zz.2 = true → zz.1 = t ∧ appL ts ls = ts) ∧ Mem w [selE zz.2 (own rcells 19 zz.1 (appL ts ls))] w' := by
  have ght : Gv w t rcells 19 ts := ⟨ht⟩
  have ghl : Gv w l chcells 20 ls := ⟨hl⟩
  have hlb := hl.bd
  have hr := hpre
  refine calls_of (args := [_, _]) Try.func113 rfl Try.ntmps113 rfl ?_
  change Cw _ _ _ _ _ [(0, t.val), (1, l.val)] []
  refine cw_seq ?_
  refine cw_region ?_
  refine sq_r (ry_assign rfl) ?_
  refine sq_r (ry_assign rfl) ?_
  refine sq_nil ?_
  refine ex_then ?_
  refine cw_seq ?_
  refine cw_region ?_
  refine sq_r (ry_move rfl) ?_
  refine sq_r (ry_assign rfl) ?_
  refine sq_nil ?_
  refine ex_then ?_
  refine cw_seq ?_
  refine cw_seq ?_
  refine cw_region ?_
  refine sq_r (ry_assign rfl) ?_
  refine sq_nil ?_
  refine ex_then ?_
  refine cw_block ?_
  refine cw_loop (X := Nat × Sv × Bool × List Rt) (fun zz => [(7, .int .i64 (zz.1 : Nat)), (6, zz.2.1.val), (0, t.val), (1, l.val)]) (fun zz => [selE zz.2.2.1 (own rcells 19 zz.2.1 zz.2.2.2)]) (fun zz => zz.1 ≤ ls.length ∧ appF ts ls = appF zz.2.2.2 (ls.drop zz.1) ∧ tright zz.2.2.2 = true ∧ (zz.2.2.1 = true → zz.2.1 = t ∧ zz.2.2.2 = ts)) (fun zz => ls.length - zz.1) (0, t, true, ts) ⟨Nat.zero_le _, rfl, hr, fun _ => ⟨rfl, rfl⟩⟩ (Sub.cons rfl (Sub.cons rfl (Sub.cons rfl (Sub.cons rfl (Sub.nil _))))) (fun w hw => Mem.selT hw) ?_
  rintro ⟨i, o, g, q⟩ ⟨hi1, hi2, hi3, hi4⟩
  dsimp only
  simp only at hi1 hi2 hi3 hi4
  have hql := tr_len hi3
  have sg : SelG g o q t ts := ⟨hi4⟩
  refine cw_seq ?_
  refine cw_seq ?_
  refine cw_region ?_
  refine sq_r (ry_move rfl) ?_
  refine sq_r (ry_move rfl) ?_
  refine sq_r (ry_lenH rfl) ?_
  refine sq_r (ry_int rfl rfl rfl) ?_
  refine sq_nil ?_
  refine ex_then ?_
  refine cw_cond rfl (fun h0 => ?_) (fun h0 => ?_)
  · try simp only [Bool.and_eq_true, Bool.or_eq_true, Bool.and_eq_false_iff, Bool.or_eq_false_iff, Bool.not_eq_true', Bool.not_eq_false', decide_eq_true_eq, decide_eq_false_iff_not, Bool.not_eq_true, Bool.not_eq_false] at h0
    obtain ⟨c, hc⟩ := get_some (xs := ls) (i := i) (by omega)
    refine cw_skip ?_
    refine ex_then ?_
    refine cw_seq ?_
    refine cw_block ?_
    refine cw_seq ?_
    refine cw_region ?_
    refine sq_r (ry_move rfl) ?_
    refine sq_r (ry_move rfl) ?_
    refine sq_r (ry_move rfl) ?_
    refine sq_r (ry_idxH rfl rfl i rfl (by omega)) ?_
    refine sq_r (ry_field rfl rfl) ?_
    refine sq_r (ry_field rfl rfl) ?_
    refine sq_r (ry_elempH (j := 0) rfl i hc rfl (by decide)) ?_
    refine sq_y (yl_callC rfl trivial) ?_
    refine sq_r (ry_move rfl) ?_
    refine sq_r (ry_extract (v := .int .u16 ((rgetH q c.r.p).toNat : Nat)) rfl rfl) ?_
    refine sq_r (ry_extract (v := .int .i64 (rgetE q c.r.p)) rfl rfl) ?_
    refine sq_r (ry_assign rfl) ?_
    refine sq_r (ry_assign rfl) ?_
    refine sq_nil ?_
    refine ex_then ?_
    refine cw_seq ?_
    refine cw_seq ?_
    refine cw_region ?_
    refine sq_r (ry_move rfl) ?_
    refine sq_r (ry_int rfl rfl rfl) ?_
    refine sq_r (ry_move rfl) ?_
    refine sq_gf rfl rfl rfl (fun hg => (Ry.yl (ry_move rfl))) ?_
    refine sq_gf rfl rfl rfl (fun hg => (Ry.yl (ry_int (ev_c hg rfl) rfl rfl))) ?_
    refine sq_gf rfl rfl rfl (fun hg => (Ry.yl (ry_move (ev_c hg rfl)))) ?_
    refine sq_nt rfl rfl rfl (fun hg => (Ry.yl (ry_move rfl))) ?_
    refine sq_nt rfl rfl rfl (fun hg => (Ry.yl (ry_move rfl))) ?_
    refine sq_nt rfl rfl rfl (fun hg => (Ry.yl (ry_idxH (ev_c hg rfl) (ev_c hg rfl) i rfl (by simp only [Bool.and_eq_true, Bool.or_eq_true, Bool.and_eq_false_iff, Bool.or_eq_false_iff, Bool.not_eq_true', Bool.not_eq_false', decide_eq_true_eq, decide_eq_false_iff_not, Bool.not_eq_true, Bool.not_eq_false] at hg; omega)))) ?_
    refine sq_nt rfl rfl rfl (fun hg => (Ry.yl (ry_field (ev_c hg rfl) rfl))) ?_
    refine sq_nt rfl rfl rfl (fun hg => (Ry.yl (ry_elemcH (j := 19) (ev_c hg rfl) i hc rfl (by decide)))) ?_
    refine sq_gf rfl rfl rfl (fun hg => (Ry.yl (ry_and (ev_c hg rfl) (ev_cc hg rfl) rfl))) ?_
    refine sq_r (ry_or rfl rfl rfl) ?_
    refine sq_nil ?_
    refine ex_then ?_
    refine cw_cond rfl (fun h1 => ?_) (fun h1 => ?_)
    · try simp only [Bool.and_eq_true, Bool.or_eq_true, Bool.and_eq_false_iff, Bool.or_eq_false_iff, Bool.not_eq_true', Bool.not_eq_false', decide_eq_true_eq, decide_eq_false_iff_not, Bool.not_eq_true, Bool.not_eq_false] at h1
      have hce : chgE q c = rgetE q c.r.p := by rw [chgE_get hi3]; rw [if_pos h1]
      obtain ⟨hE, hL⟩ := app_end hr hi2 hc (by rw [hce]; rcases h1 with h | h <;> omega)
      refine cw_seq ?_
      refine cw_region ?_
      refine sq_r (ry_move rfl) ?_
      refine sq_r (ry_move rfl) ?_
      refine sq_r (ry_assign rfl) ?_
      refine sq_r (ry_assign rfl) ?_
      refine sq_nil ?_
      refine ex_then ?_
      refine cw_ret ?_
      refine ex_pass_ret ?_
      refine ex_block_ret ?_
      refine ex_pass_ret ?_
      refine ex_pass_ret ?_
      refine ex_block_ret ?_
      refine ex_pass_ret ?_
      refine ex_ret (.inl rfl) (res_2 rfl (rv_tmp rfl) (rv_tmp rfl)) (fun w1 hw => ?_)
      exact ⟨(t, true), by rw [hE, hce], fun _ => ⟨rfl, hL⟩, Mem.selT (Keep.mem hw)⟩
    · try simp only [Bool.and_eq_true, Bool.or_eq_true, Bool.and_eq_false_iff, Bool.or_eq_false_iff, Bool.not_eq_true', Bool.not_eq_false', decide_eq_true_eq, decide_eq_false_iff_not, Bool.not_eq_true, Bool.not_eq_false] at h1
      have h1x : ¬ (rgetE q c.r.p = 1 ∨ (rgetE q c.r.p = 6 ∧ c.gone = true)) := by
        rintro (h | ⟨h, h'⟩)
        · exact h1.1 h
        · rcases h1.2 with h2 | h2
          · exact h2 h
          · rw [h2] at h'; cases h'
      refine cw_skip ?_
      refine ex_then ?_
      refine cw_seq ?_
      refine cw_seq ?_
      refine cw_region ?_
      refine sq_r (ry_move rfl) ?_
      refine sq_r (ry_int rfl rfl rfl) ?_
      refine sq_r (ry_move rfl) ?_
      refine sq_gt rfl rfl rfl (fun hg => (Ry.yl (ry_move rfl))) ?_
      refine sq_gt rfl rfl rfl (fun hg => (Ry.yl (ry_lenH (ev_c hg rfl)))) ?_
      refine sq_gt rfl rfl rfl (fun hg => (Ry.yl (ry_int (ev_c hg rfl) rfl rfl))) ?_
      refine sq_r (ry_and rfl rfl rfl) ?_
      refine sq_nil ?_
      refine ex_then ?_
      refine cw_cond rfl (fun h2 => ?_) (fun h2 => ?_)
      · try simp only [Bool.and_eq_true, Bool.or_eq_true, Bool.and_eq_false_iff, Bool.or_eq_false_iff, Bool.not_eq_true', Bool.not_eq_false', decide_eq_true_eq, decide_eq_false_iff_not, Bool.not_eq_true, Bool.not_eq_false] at h2
        have hce : chgE q c = 5 := by rw [chgE_get hi3]; rw [if_neg h1x, if_pos ⟨h2.1, by omega⟩]
        obtain ⟨hE, hL⟩ := app_end hr hi2 hc (by rw [hce]; decide)
        refine cw_seq ?_
        refine cw_region ?_
        refine sq_r (ry_move rfl) ?_
        refine sq_r (ry_assign rfl) ?_
        refine sq_r (ry_assign rfl) ?_
        refine sq_nil ?_
        refine ex_then ?_
        refine cw_ret ?_
        refine ex_pass_ret ?_
        refine ex_block_ret ?_
        refine ex_pass_ret ?_
        refine ex_pass_ret ?_
        refine ex_block_ret ?_
        refine ex_pass_ret ?_
        refine ex_ret (.inl rfl) (res_2 rfl (rv_tmp rfl) (rv_tmp rfl)) (fun w1 hw => ?_)
        exact ⟨(t, true), by rw [hE, hce], fun _ => ⟨rfl, hL⟩, Mem.selT (Keep.mem hw)⟩
      · try simp only [Bool.and_eq_true, Bool.or_eq_true, Bool.and_eq_false_iff, Bool.or_eq_false_iff, Bool.not_eq_true', Bool.not_eq_false', decide_eq_true_eq, decide_eq_false_iff_not, Bool.not_eq_true, Bool.not_eq_false] at h2
        have hce : chgE q c = 0 := by rw [chgE_get hi3, if_neg h1x, if_neg (by intro h; rcases h2 with h2 | h2 <;> omega)]
        have hst : appF ts ls = appF (chgL q c) (ls.drop (i + 1)) := by rw [hi2, appF_step hc, if_pos hce]
        refine cw_skip ?_
        refine ex_then ?_
        refine cw_seq ?_
        refine cw_seq ?_
        refine cw_region ?_
        refine sq_r (ry_move rfl) ?_
        refine sq_r (ry_move rfl) ?_
        refine sq_r (ry_idxH rfl rfl i rfl (by omega)) ?_
        refine sq_r (ry_field rfl rfl) ?_
        refine sq_r (ry_elemcH (j := 19) rfl i hc rfl (by decide)) ?_
        refine sq_r (ry_not rfl) ?_
        refine sq_nil ?_
        refine ex_then ?_
        refine cw_cond rfl (fun h3 => ?_) (fun h3 => ?_)
        · try simp only [Bool.and_eq_true, Bool.or_eq_true, Bool.and_eq_false_iff, Bool.or_eq_false_iff, Bool.not_eq_true', Bool.not_eq_false', decide_eq_true_eq, decide_eq_false_iff_not, Bool.not_eq_true, Bool.not_eq_false] at h3
          have hcc : c = ⟨c.r, false⟩ := by rw [← h3]
          have hq : chgL q c = putF c.r q false := by rw [hcc]; exact chg_putF hi3 (by rw [← hcc]; exact hce)
          refine cw_seq ?_
          refine cw_region ?_
          refine sq_r (ry_move rfl) ?_
          refine sq_r (ry_move rfl) ?_
          refine sq_r (ry_move rfl) ?_
          refine sq_r (ry_idxH rfl rfl i rfl (by omega)) ?_
          refine sq_r (ry_field rfl rfl) ?_
          refine sq_r (ry_elempH (j := 0) rfl i hc rfl (by decide)) ?_
          refine sq_callC rfl (by omega) fun x65 hp65 => ?_
          refine sq_r (ry_assign rfl) ?_
          refine sq_nil ?_
          refine ex_then ?_
          refine cw_exit ?_
          refine ex_pass_exit ?_
          refine ex_block_hit ?_
          refine ex_then ?_
          refine cw_region ?_
          refine sq_r (ry_move rfl) ?_
          refine sq_r (ry_add rfl rfl (by omega)) ?_
          refine sq_r (ry_assign rfl) ?_
          refine sq_nil ?_
          exact ex_again (x := (i, o, g, q)) (i + 1, x65, false, chgL q c) ⟨by first | omega | (simp only []; omega), hst, chg_right hi3 c, fun h => by cases h⟩ (by simp only; omega) (Sub.cons rfl (Sub.cons rfl (Sub.cons rfl (Sub.cons rfl (Sub.nil _))))) (fun w hw => by rw [hq]; exact Mem.selF (Keep.mem hw))
        · try simp only [Bool.and_eq_true, Bool.or_eq_true, Bool.and_eq_false_iff, Bool.or_eq_false_iff, Bool.not_eq_true', Bool.not_eq_false', decide_eq_true_eq, decide_eq_false_iff_not, Bool.not_eq_true, Bool.not_eq_false] at h3
          have hcc : c = ⟨c.r, true⟩ := by rw [← h3]
          have hq : chgL q c = q.filter (fun x => decide (x.p ≠ c.r.p)) := by rw [hcc]; exact chg_goneF hi3 (by rw [← hcc]; exact hce)
          refine cw_skip ?_
          refine ex_then ?_
          refine cw_seq ?_
          refine cw_region ?_
          refine sq_r (ry_assign rfl) ?_
          refine sq_nil ?_
          refine ex_then ?_
          refine cw_seq ?_
          refine cw_seq ?_
          refine cw_region ?_
          refine sq_r (ry_assign rfl) ?_
          refine sq_nil ?_
          refine ex_then ?_
          refine cw_block ?_
          refine cw_loop (X := Nat × Sv × List Rt) (fun zz => [(11, .int .i64 (zz.1 : Nat)), (10, zz.2.1.val), (0, t.val), (1, l.val), (6, o.val), (7, .int .i64 (i : Nat))]) (fun zz => [own rcells 19 zz.2.1 zz.2.2, selE g (own rcells 19 o q)]) (fun zz => zz.1 ≤ q.length ∧ zz.2.2 = (q.take zz.1).filter (fun x => decide (x.p ≠ c.r.p))) (fun zz => q.length - zz.1) (0, Sv.none, []) ⟨Nat.zero_le _, rfl⟩ (Sub.cons rfl (Sub.cons rfl (Sub.cons rfl (Sub.cons rfl (Sub.cons rfl (Sub.cons rfl (Sub.nil _))))))) (fun w hw => Mem.nilOwn rcells 19 (Keep.mem hw)) ?_
          rintro ⟨k, v, z⟩ ⟨hj1, hj2⟩
          dsimp only
          simp only at hj1 hj2
          have hzl : z.length ≤ q.length := by rw [hj2]; exact Nat.le_trans (List.length_filter_le _ _) (by rw [List.length_take]; omega)
          refine cw_seq ?_
          refine cw_seq ?_
          refine cw_region ?_
          refine sq_r (ry_move rfl) ?_
          refine sq_r (ry_move rfl) ?_
          refine sq_r (ry_lenH rfl) ?_
          refine sq_r (ry_int rfl rfl rfl) ?_
          refine sq_nil ?_
          refine ex_then ?_
          refine cw_cond rfl (fun h4 => ?_) (fun h4 => ?_)
          · try simp only [Bool.and_eq_true, Bool.or_eq_true, Bool.and_eq_false_iff, Bool.or_eq_false_iff, Bool.not_eq_true', Bool.not_eq_false', decide_eq_true_eq, decide_eq_false_iff_not, Bool.not_eq_true, Bool.not_eq_false] at h4
            obtain ⟨e, he⟩ := get_some (xs := q) (i := k) (by omega)
            refine cw_skip ?_
            refine ex_then ?_
            refine cw_seq ?_
            refine cw_block ?_
            refine cw_seq ?_
            refine cw_quiet (by kernel_rfl) (by kernel_rfl) ?_
            refine qt_r (ry_move rfl) ?_
            refine qt_r (ry_move rfl) ?_
            refine qt_r (ry_idxH rfl rfl k rfl (by omega)) ?_
            refine qt_r (ry_field rfl rfl) ?_
            refine qt_r (ry_elempH (j := 0) rfl k he rfl (by decide)) ?_
            refine qt_r (ry_move rfl) ?_
            refine qt_r (ry_move rfl) ?_
            refine qt_r (ry_idxH rfl rfl i rfl (by omega)) ?_
            refine qt_r (ry_field rfl rfl) ?_
            refine qt_r (ry_field rfl rfl) ?_
            refine qt_r (ry_elempH (j := 0) rfl i hc rfl (by decide)) ?_
            refine qt_r (ry_ne rfl rfl) ?_
            refine qt_nil ?_
            refine ex_then ?_
            refine cw_cond rfl (fun h5 => ?_) (fun h5 => ?_)
            · try simp only [Bool.and_eq_true, Bool.or_eq_true, Bool.and_eq_false_iff, Bool.or_eq_false_iff, Bool.not_eq_true', Bool.not_eq_false', decide_eq_true_eq, decide_eq_false_iff_not, Bool.not_eq_true, Bool.not_eq_false] at h5
              refine cw_region ?_
              refine sq_r (ry_move rfl) ?_
              refine sq_r (ry_move rfl) ?_
              refine sq_r (ry_move rfl) ?_
              refine sq_r (ry_idxH rfl rfl k rfl (by omega)) ?_
              refine sq_r (ry_elemH rfl k he rfl) ?_
              refine sq_buildSlice (enc := rcells) (vals := [_]) [e] rfl rfl rfl (by decide) (by decide) fun b89 => ?_
              refine sq_append (s := v) (ys := [e]) rfl rfl (by decide) (fun w hw => src_rows (s := ⟨false, b89, 0, 1, 1, none⟩) Try.underlying22 (by decide) ((inferInstance : Hd _ _ ⟨false, b89, 0, 1, 1, none⟩ rcells 19 [e]).h w hw)) (by simp only [List.length_cons, List.length_nil]; omega) (by simp only [List.length_cons, List.length_nil]; omega) fun s90 hs90 hl90 => ?_
              refine sq_r (ry_assign rfl) ?_
              refine sq_nil ?_
              refine ex_block ?_
              refine ex_then ?_
              refine cw_region ?_
              refine sq_r (ry_move rfl) ?_
              refine sq_r (ry_add rfl rfl (by omega)) ?_
              refine sq_r (ry_assign rfl) ?_
              refine sq_nil ?_
              exact ex_again (x := (k, v, z)) (k + 1, s90, z ++ [e]) ⟨by first | omega | (simp only []; omega), by rw [filter_take1 he, if_pos (by simpa using h5), ← hj2]⟩ (by simp only; omega) (Sub.cons rfl (Sub.cons rfl (Sub.cons rfl (Sub.cons rfl (Sub.cons rfl (Sub.cons rfl (Sub.nil _))))))) (fun w hw => Keep.mem hw)
            · try simp only [Bool.and_eq_true, Bool.or_eq_true, Bool.and_eq_false_iff, Bool.or_eq_false_iff, Bool.not_eq_true', Bool.not_eq_false', decide_eq_true_eq, decide_eq_false_iff_not, Bool.not_eq_true, Bool.not_eq_false] at h5
              refine cw_skip ?_
              refine ex_block ?_
              refine ex_then ?_
              refine cw_region ?_
              refine sq_r (ry_move rfl) ?_
              refine sq_r (ry_add rfl rfl (by omega)) ?_
              refine sq_r (ry_assign rfl) ?_
              refine sq_nil ?_
              exact ex_again (x := (k, v, z)) (k + 1, v, z) ⟨by first | omega | (simp only []; omega), by rw [filter_take1 he, if_neg (by simpa using h5), List.append_nil, ← hj2]⟩ (by simp only; omega) (Sub.cons rfl (Sub.cons rfl (Sub.cons rfl (Sub.cons rfl (Sub.cons rfl (Sub.cons rfl (Sub.nil _))))))) (fun w hw => Keep.mem hw)
          · try simp only [Bool.and_eq_true, Bool.or_eq_true, Bool.and_eq_false_iff, Bool.or_eq_false_iff, Bool.not_eq_true', Bool.not_eq_false', decide_eq_true_eq, decide_eq_false_iff_not, Bool.not_eq_true, Bool.not_eq_false] at h4
            obtain rfl : k = q.length := by omega
            rw [List.take_length] at hj2
            refine cw_exit ?_
            refine ex_pass_exit ?_
            refine ex_pass_exit ?_
            refine ex_block_hit ?_
            refine ex_then ?_
            refine cw_region ?_
            refine sq_r (ry_move rfl) ?_
            refine sq_r (ry_assign rfl) ?_
            refine sq_nil ?_
            refine ex_block ?_
            refine ex_then ?_
            refine cw_region ?_
            refine sq_r (ry_move rfl) ?_
            refine sq_r (ry_add rfl rfl (by omega)) ?_
            refine sq_r (ry_assign rfl) ?_
            refine sq_nil ?_
            exact ex_again (x := (i, o, g, q)) (i + 1, v, false, chgL q c) ⟨by first | omega | (simp only []; omega), hst, chg_right hi3 c, fun h => by cases h⟩ (by simp only; omega) (Sub.cons rfl (Sub.cons rfl (Sub.cons rfl (Sub.cons rfl (Sub.nil _))))) (fun w hw => by rw [hq, ← hj2]; exact Mem.selF (Keep.mem hw))
  · try simp only [Bool.and_eq_true, Bool.or_eq_true, Bool.and_eq_false_iff, Bool.or_eq_false_iff, Bool.not_eq_true', Bool.not_eq_false', decide_eq_true_eq, decide_eq_false_iff_not, Bool.not_eq_true, Bool.not_eq_false] at h0
    obtain rfl : i = ls.length := by omega
    obtain ⟨hE, hL⟩ := app_done hr hi2
    refine cw_exit ?_
    refine ex_pass_exit ?_
    refine ex_pass_exit ?_
    refine ex_block_hit ?_
    refine ex_then ?_
    refine cw_seq ?_
    refine cw_region ?_
    refine sq_r (ry_move rfl) ?_
    refine sq_r (ry_assign rfl) ?_
    refine sq_r (ry_assign rfl) ?_
    refine sq_nil ?_
    refine ex_then ?_
    refine cw_ret ?_
    refine ex_ret (.inl rfl) (res_2 rfl (rv_tmp rfl) (rv_tmp rfl)) (fun w1 hw => ?_)
    exact ⟨(o, g), by rw [hE], by rw [hL]; exact hi4, by rw [hL]; exact Keep.mem hw⟩
instance r3apply_i {w0 : World} {L : List Ent} {t : Sv} {ts : List Rt} {l : Sv} {ls : List Ch} [ht : HdE w0 L rcells 19 t ts] [hl : HdE w0 L chcells 20 l ls] : FnC Try.prog 113 w0 L [t.val, l.val] (Sv × Bool) (fun zz => .tuple #[zz.1.val, .int .i64 (appE ts ls)]) (fun zz => selE zz.2 (own rcells 19 zz.1 (appL ts ls)) :: L) (fun zz => zz.2 = true → zz.1 = t ∧ appL ts ls = ts) (tright ts = true) := ⟨fun hp w hw => (r3apply_c w t ts l ls (ht.h w hw) (hl.h w hw) hp).mono fun e w' ⟨x, h1, h2, h3⟩ => ⟨x, h1, h2, hw.call h3⟩⟩
set_option maxRecDepth 20000 in
theorem same18_c (w : World) (u : Sv) (us : List Ch) (v : Sv) (vs : List Ch) (hu : Lies chcells 20 (hp w) u us) (hv : Lies chcells 20 (hp w) v vs) : Calls Try.prog 57 #[u.val, v.val] w fun e w' => e = .returned (.bool (decide (us = vs))) ∧ Mem w [] w' := by
  have ghu : Gv w u chcells 20 us := ⟨hu⟩
  have ghv : Gv w v chcells 20 vs := ⟨hv⟩
  have hub := hu.bd
  refine calls_of (args := [_, _]) Try.func57 rfl Try.ntmps57 rfl ?_
  change Cw _ _ _ _ _ [(0, u.val), (1, v.val)] []
  refine cw_seq ?_
  refine cw_region ?_
  refine sq_r (ry_assign rfl) ?_
  refine sq_nil ?_
  refine ex_then ?_
  refine cw_seq ?_
  refine cw_seq ?_
  refine cw_region ?_
  refine sq_r (ry_move rfl) ?_
  refine sq_r (ry_lenH rfl) ?_
  refine sq_r (ry_move rfl) ?_
  refine sq_r (ry_lenH rfl) ?_
  refine sq_r (ry_int rfl rfl rfl) ?_
  refine sq_nil ?_
  refine ex_then ?_
  refine cw_cond rfl (fun h0 => ?_) (fun h0 => ?_)
  · try simp only [Bool.and_eq_true, Bool.or_eq_true, Bool.and_eq_false_iff, Bool.or_eq_false_iff, Bool.not_eq_true', Bool.not_eq_false', decide_eq_true_eq, decide_eq_false_iff_not, Bool.not_eq_true, Bool.not_eq_false] at h0
    have hno : ¬ us = vs := fun e => h0 (by rw [e])
    refine cw_seq ?_
    refine cw_region ?_
    refine sq_r (ry_assign rfl) ?_
    refine sq_nil ?_
    refine ex_then ?_
    refine cw_ret ?_
    refine ex_pass_ret ?_
    refine ex_ret (.inl rfl) (res_1 rfl (rv_tmp rfl)) (fun w1 hw => ?_)
    exact ⟨congrArg (fun b => Ending.returned (Value.bool b)) ((decide_eq_false hno).symm), Keep.mem hw⟩
  · try simp only [Bool.and_eq_true, Bool.or_eq_true, Bool.and_eq_false_iff, Bool.or_eq_false_iff, Bool.not_eq_true', Bool.not_eq_false', decide_eq_true_eq, decide_eq_false_iff_not, Bool.not_eq_true, Bool.not_eq_false] at h0
    refine cw_skip ?_
    refine ex_then ?_
    refine cw_seq ?_
    refine cw_seq ?_
    refine cw_region ?_
    refine sq_r (ry_assign rfl) ?_
    refine sq_nil ?_
    refine ex_then ?_
    refine cw_block ?_
    refine cw_loop (X := Nat) (fun zz => [(5, .int .i64 (zz : Nat)), (0, u.val), (1, v.val)]) (fun zz => []) (fun zz => zz ≤ us.length ∧ ∀ j, j < zz → us[j]? = vs[j]?) (fun zz => us.length - zz) 0 ⟨Nat.zero_le _, fun j h => by first | omega | (simp only []; omega)⟩ (Sub.cons rfl (Sub.cons rfl (Sub.cons rfl (Sub.nil _)))) (fun w hw => Keep.mem hw) ?_
    rintro i ⟨hi1, hi2⟩
    refine cw_seq ?_
    refine cw_seq ?_
    refine cw_region ?_
    refine sq_r (ry_move rfl) ?_
    refine sq_r (ry_move rfl) ?_
    refine sq_r (ry_lenH rfl) ?_
    refine sq_r (ry_int rfl rfl rfl) ?_
    refine sq_nil ?_
    refine ex_then ?_
    refine cw_cond rfl (fun h1 => ?_) (fun h1 => ?_)
    · try simp only [Bool.and_eq_true, Bool.or_eq_true, Bool.and_eq_false_iff, Bool.or_eq_false_iff, Bool.not_eq_true', Bool.not_eq_false', decide_eq_true_eq, decide_eq_false_iff_not, Bool.not_eq_true, Bool.not_eq_false] at h1
      obtain ⟨a, ha⟩ := get_some (xs := us) (i := i) (by omega)
      obtain ⟨b, hb⟩ := get_some (xs := vs) (i := i) (by omega)
      refine cw_skip ?_
      refine ex_then ?_
      refine cw_seq ?_
      refine cw_block ?_
      refine cw_seq ?_
      refine cw_quiet (by kernel_rfl) (by kernel_rfl) ?_
      refine qt_r (ry_move rfl) ?_
      refine qt_r (ry_move rfl) ?_
      refine qt_r (ry_idxH rfl rfl i rfl (by omega)) ?_
      refine qt_r (ry_elemH rfl i ha rfl) ?_
      refine qt_r (ry_move rfl) ?_
      refine qt_r (ry_move rfl) ?_
      refine qt_r (ry_idxH rfl rfl i rfl (by omega)) ?_
      refine qt_r (ry_elemH rfl i hb rfl) ?_
      refine qt_r (ry_ne rfl rfl) ?_
      refine qt_nil ?_
      refine ex_then ?_
      refine cw_cond rfl (fun h2 => ?_) (fun h2 => ?_)
      · try simp only [Bool.and_eq_true, Bool.or_eq_true, Bool.and_eq_false_iff, Bool.or_eq_false_iff, Bool.not_eq_true', Bool.not_eq_false', decide_eq_true_eq, decide_eq_false_iff_not, Bool.not_eq_true, Bool.not_eq_false] at h2
        have hno : ¬ us = vs := list_no ha hb h2
        refine cw_seq ?_
        refine cw_region ?_
        refine sq_r (ry_assign rfl) ?_
        refine sq_nil ?_
        refine ex_then ?_
        refine cw_ret ?_
        refine ex_block_ret ?_
        refine ex_pass_ret ?_
        refine ex_pass_ret ?_
        refine ex_block_ret ?_
        refine ex_pass_ret ?_
        refine ex_ret (.inl rfl) (res_1 rfl (rv_tmp rfl)) (fun w1 hw => ?_)
        exact ⟨congrArg (fun b => Ending.returned (Value.bool b)) ((decide_eq_false hno).symm), Keep.mem hw⟩
      · try simp only [Bool.and_eq_true, Bool.or_eq_true, Bool.and_eq_false_iff, Bool.or_eq_false_iff, Bool.not_eq_true', Bool.not_eq_false', decide_eq_true_eq, decide_eq_false_iff_not, Bool.not_eq_true, Bool.not_eq_false] at h2
        refine cw_skip ?_
        refine ex_block ?_
        refine ex_then ?_
        refine cw_region ?_
        refine sq_r (ry_move rfl) ?_
        refine sq_r (ry_add rfl rfl (by omega)) ?_
        refine sq_r (ry_assign rfl) ?_
        refine sq_nil ?_
        exact ex_again (x := (i)) (i + 1) ⟨by first | omega | (simp only []; omega), fun j hj => if e : j = i then (by subst e; rw [ha, hb, h2]) else hi2 j (by first | omega | (simp only []; omega))⟩ (by first | omega | (simp only []; omega)) (Sub.cons rfl (Sub.cons rfl (Sub.cons rfl (Sub.nil _)))) (fun w hw => Keep.mem hw)
    · try simp only [Bool.and_eq_true, Bool.or_eq_true, Bool.and_eq_false_iff, Bool.or_eq_false_iff, Bool.not_eq_true', Bool.not_eq_false', decide_eq_true_eq, decide_eq_false_iff_not, Bool.not_eq_true, Bool.not_eq_false] at h1
      have hyes : us = vs := list_all (by omega) (fun j hj => hi2 j (by omega))
      refine cw_exit ?_
      refine ex_pass_exit ?_
      refine ex_pass_exit ?_
      refine ex_block_hit ?_
      refine ex_then ?_
      refine cw_seq ?_
      refine cw_region ?_
      refine sq_r (ry_assign rfl) ?_
      refine sq_nil ?_
      refine ex_then ?_
      refine cw_ret ?_
      refine ex_ret (.inl rfl) (res_1 rfl (rv_tmp rfl)) (fun w1 hw => ?_)
      exact ⟨congrArg (fun b => Ending.returned (Value.bool b)) ((decide_eq_true hyes).symm), Keep.mem hw⟩
instance same18_i {w0 : World} {L : List Ent} {u : Sv} {us : List Ch} {v : Sv} {vs : List Ch} [hu : HdE w0 L chcells 20 u us] [hv : HdE w0 L chcells 20 v vs] : FnQ Try.prog 57 w0 L [u.val, v.val] (.bool (decide (us = vs))) (True) := ⟨fun hp w hw => same18_c w u us v vs (hu.h w hw) (hv.h w hw)⟩

end Go.Proofs.Ytajhlgdapiihgaa

/- Journals by the reference, put: walked. -/
set_option linter.unusedSimpArgs false
set_option linter.unusedVariables false
namespace Go.Proofs.Ytajhlgdapiihgaa
open Go.Eng Go.Kb
set_option maxRecDepth 20000 in
theorem rjput_c (w : World) (l : Sv) (ls : List Ch) (hl : Lies chcells 20 (hp w) l ls) : Calls Try.prog 54 #[l.val] w fun e w' => ∃ zz : Sv, e = .returned (.tuple #[zz.val, .int .i64 (jputE ls)]) ∧ (True) ∧ Mem w [own benc 1 zz (jputV ls)] w' := by
  have ghl : Gv w l chcells 20 ls := ⟨hl⟩
  refine calls_of (args := [_]) Try.func54 rfl Try.ntmps54 rfl ?_
  change Cw _ _ _ _ _ [(0, l.val)] []
  refine cw_seq ?_
  refine cw_region ?_
  refine sq_r (ry_assign rfl) ?_
  refine sq_r (ry_assign rfl) ?_
  refine sq_nil ?_
  refine ex_then ?_
  refine cw_seq ?_
  refine cw_seq ?_
  refine cw_region ?_
  refine sq_r (ry_move rfl) ?_
  refine sq_r (ry_lenH rfl) ?_
  refine sq_r (ry_int rfl rfl rfl) ?_
  refine sq_nil ?_
  refine ex_then ?_
  refine cw_cond rfl (fun h0 => ?_) (fun h0 => ?_)
  · try simp only [Bool.and_eq_true, Bool.or_eq_true, Bool.and_eq_false_iff, Bool.or_eq_false_iff, Bool.not_eq_true', Bool.not_eq_false', decide_eq_true_eq, decide_eq_false_iff_not, Bool.not_eq_true, Bool.not_eq_false] at h0
    have he : jputE ls = 1 := by rw [jputE, if_pos (by omega)]
    refine cw_seq ?_
    refine cw_region ?_
    refine sq_r (ry_assign rfl) ?_
    refine sq_r (ry_assign rfl) ?_
    refine sq_nil ?_
    refine ex_then ?_
    refine cw_ret ?_
    refine ex_pass_ret ?_
    refine ex_ret (.inl rfl) (res_2 rfl (rv_tmp rfl) (rv_tmp rfl)) (fun w1 hw => ?_)
    exact ⟨Sv.none, by rw [he]; rfl, trivial, by rw [jputV, if_neg (by rw [he]; decide)]; exact (Keep.mem hw : Mem w [] _).nilOwn benc 1⟩
  · try simp only [Bool.and_eq_true, Bool.or_eq_true, Bool.and_eq_false_iff, Bool.or_eq_false_iff, Bool.not_eq_true', Bool.not_eq_false', decide_eq_true_eq, decide_eq_false_iff_not, Bool.not_eq_true, Bool.not_eq_false] at h0
    have hln : ls.length ≤ 200 := by omega
    refine cw_skip ?_
    refine ex_then ?_
    refine cw_seq ?_
    refine cw_region ?_
    refine sq_r (ry_move rfl) ?_
    refine sq_r (ry_lenH rfl) ?_
    refine sq_r (ry_convn rfl (by simp only [nb]; omega)) ?_
    refine sq_callC (vs := [_, .int .i64 ((2 : Nat) : Int)]) rfl ⟨by omega, by omega⟩ fun x12 hp12 => ?_
    refine sq_r (ry_assign rfl) ?_
    refine sq_nil ?_
    refine ex_then ?_
    refine cw_seq ?_
    refine cw_seq ?_
    refine cw_region ?_
    refine sq_r (ry_assign rfl) ?_
    refine sq_nil ?_
    refine ex_then ?_
    refine cw_block ?_
    refine cw_loop (X := Nat × Sv) (fun zz => [(5, .int .i64 (zz.1 : Nat)), (4, zz.2.val), (0, l.val)]) (fun zz => [own benc 1 zz.2 (jbody ls zz.1)]) (fun zz => zz.1 ≤ ls.length ∧ ∀ x ∈ ls.take zz.1, pmay x.r.p = true) (fun zz => ls.length - zz.1) (0, x12) ⟨Nat.zero_le _, by simp⟩ (Sub.cons rfl (Sub.cons rfl (Sub.cons rfl (Sub.nil _)))) (fun w hw => by rw [show jbody ls 0 = be ls.length 2 from by simp [jbody]]; exact Keep.mem hw) ?_
    rintro ⟨i, s1⟩ ⟨hi1, hi2⟩
    dsimp only
    simp only at hi1 hi2
    have hjl := jbody_length ls i hi1
    refine cw_seq ?_
    refine cw_seq ?_
    refine cw_region ?_
    refine sq_r (ry_move rfl) ?_
    refine sq_r (ry_move rfl) ?_
    refine sq_r (ry_lenH rfl) ?_
    refine sq_r (ry_int rfl rfl rfl) ?_
    refine sq_nil ?_
    refine ex_then ?_
    refine cw_cond rfl (fun h1 => ?_) (fun h1 => ?_)
    · try simp only [Bool.and_eq_true, Bool.or_eq_true, Bool.and_eq_false_iff, Bool.or_eq_false_iff, Bool.not_eq_true', Bool.not_eq_false', decide_eq_true_eq, decide_eq_false_iff_not, Bool.not_eq_true, Bool.not_eq_false] at h1
      obtain ⟨g, hg⟩ := get_some (xs := ls) (i := i) (by omega)
      refine cw_skip ?_
      refine ex_then ?_
      refine cw_seq ?_
      refine cw_block ?_
      refine cw_seq ?_
      refine cw_seq ?_
      refine cw_region ?_
      refine sq_r (ry_move rfl) ?_
      refine sq_r (ry_move rfl) ?_
      refine sq_r (ry_idxH rfl rfl i rfl (by omega)) ?_
      refine sq_r (ry_field rfl rfl) ?_
      refine sq_r (ry_field rfl rfl) ?_
      refine sq_r (ry_elempH (j := 0) rfl i hg rfl (by decide)) ?_
      refine sq_y (yl_callC rfl trivial) ?_
      refine sq_r (ry_not rfl) ?_
      refine sq_nil ?_
      refine ex_then ?_
      refine cw_cond rfl (fun h2 => ?_) (fun h2 => ?_)
      · try simp only [Bool.and_eq_true, Bool.or_eq_true, Bool.and_eq_false_iff, Bool.or_eq_false_iff, Bool.not_eq_true', Bool.not_eq_false', decide_eq_true_eq, decide_eq_false_iff_not, Bool.not_eq_true, Bool.not_eq_false] at h2
        have he : jputE ls = 1 := jput_bad hg h2
        refine cw_seq ?_
        refine cw_region ?_
        refine sq_r (ry_assign rfl) ?_
        refine sq_r (ry_assign rfl) ?_
        refine sq_nil ?_
        refine ex_then ?_
        refine cw_ret ?_
        refine ex_pass_ret ?_
        refine ex_block_ret ?_
        refine ex_pass_ret ?_
        refine ex_pass_ret ?_
        refine ex_block_ret ?_
        refine ex_pass_ret ?_
        refine ex_ret (.inl rfl) (res_2 rfl (rv_tmp rfl) (rv_tmp rfl)) (fun w1 hw => ?_)
        exact ⟨Sv.none, by rw [he]; rfl, trivial, by rw [jputV, if_neg (by rw [he]; decide)]; exact (Keep.mem hw : Mem w [] _).nilOwn benc 1⟩
      · try simp only [Bool.and_eq_true, Bool.or_eq_true, Bool.and_eq_false_iff, Bool.or_eq_false_iff, Bool.not_eq_true', Bool.not_eq_false', decide_eq_true_eq, decide_eq_false_iff_not, Bool.not_eq_true, Bool.not_eq_false] at h2
        have hgm : pmay g.r.p = true := by simpa using h2
        refine cw_skip ?_
        refine ex_then ?_
        refine cw_seq ?_
        refine cw_seq ?_
        refine cw_region ?_
        refine sq_r (ry_move rfl) ?_
        refine sq_r (ry_move rfl) ?_
        refine sq_r (ry_idxH rfl rfl i rfl (by omega)) ?_
        refine sq_r (ry_field rfl rfl) ?_
        refine sq_r (ry_elemcH (j := 19) rfl i hg rfl (by decide)) ?_
        refine sq_nil ?_
        refine ex_then ?_
        refine cw_cond rfl (fun h3 => ?_) (fun h3 => ?_)
        · try simp only [Bool.and_eq_true, Bool.or_eq_true, Bool.and_eq_false_iff, Bool.or_eq_false_iff, Bool.not_eq_true', Bool.not_eq_false', decide_eq_true_eq, decide_eq_false_iff_not, Bool.not_eq_true, Bool.not_eq_false] at h3
          refine cw_region ?_
          refine sq_r (ry_move rfl) ?_
          refine sq_buildSlice (enc := benc) (vals := [_]) [1] rfl rfl rfl (by decide) (by decide) fun b33 => ?_
          refine sq_append (s := s1) (ys := [1]) rfl rfl (by decide) (fun w hw => src_rows (s := ⟨false, b33, 0, 1, 1, none⟩) Try.underlying83 (by decide) ((inferInstance : Hd _ _ ⟨false, b33, 0, 1, 1, none⟩ benc 1 [1]).h w hw)) (by simp only [List.length_cons, List.length_nil]; omega) (by simp only [List.length_cons, List.length_nil]; omega) fun s34 hs34 hl34 => ?_
          refine sq_r (ry_assign rfl) ?_
          refine sq_nil ?_
          refine ex_then ?_
          refine cw_region ?_
          refine sq_r (ry_move rfl) ?_
          refine sq_r (ry_move rfl) ?_
          refine sq_r (ry_move rfl) ?_
          refine sq_r (ry_idxH rfl rfl i rfl (by omega)) ?_
          refine sq_r (ry_field rfl rfl) ?_
          refine sq_r (ry_elempH (j := 0) rfl i hg rfl (by decide)) ?_
          refine sq_callC rfl trivial fun x44 hp44 => ?_
          refine sq_append (s := s34) (ys := (rbytes g.r)) rfl rfl (by decide) (fun w hw => src_rows (s := x44) Try.underlying83 (by decide) ((inferInstance : Hd _ _ x44 benc 1 (rbytes g.r)).h w hw)) (by have := rbytes_length g.r; simp only [List.length_append, List.length_cons, List.length_nil]; omega) (by have := rbytes_length g.r; simp only [List.length_append, List.length_cons, List.length_nil]; omega) fun s45 hs45 hl45 => ?_
          refine sq_r (ry_assign rfl) ?_
          refine sq_nil ?_
          refine ex_block ?_
          refine ex_then ?_
          refine cw_region ?_
          refine sq_r (ry_move rfl) ?_
          refine sq_r (ry_add rfl rfl (by omega)) ?_
          refine sq_r (ry_assign rfl) ?_
          refine sq_nil ?_
          exact ex_again (x := (i, s1)) (i + 1, s45) ⟨by first | omega | (simp only []; omega), take_succ_all hi2 hg hgm⟩ (by simp only; omega) (Sub.cons rfl (Sub.cons rfl (Sub.cons rfl (Sub.nil _)))) (fun w hw => by simp only [List.append_assoc, List.cons_append, List.nil_append] at hw; rw [jbody_snoc hg, chbytes, if_pos h3]; exact Keep.mem hw)
        · try simp only [Bool.and_eq_true, Bool.or_eq_true, Bool.and_eq_false_iff, Bool.or_eq_false_iff, Bool.not_eq_true', Bool.not_eq_false', decide_eq_true_eq, decide_eq_false_iff_not, Bool.not_eq_true, Bool.not_eq_false] at h3
          refine cw_region ?_
          refine sq_r (ry_move rfl) ?_
          refine sq_buildSlice (enc := benc) (vals := [_]) [0] rfl rfl rfl (by decide) (by decide) fun b36 => ?_
          refine sq_append (s := s1) (ys := [0]) rfl rfl (by decide) (fun w hw => src_rows (s := ⟨false, b36, 0, 1, 1, none⟩) Try.underlying83 (by decide) ((inferInstance : Hd _ _ ⟨false, b36, 0, 1, 1, none⟩ benc 1 [0]).h w hw)) (by simp only [List.length_cons, List.length_nil]; omega) (by simp only [List.length_cons, List.length_nil]; omega) fun s37 hs37 hl37 => ?_
          refine sq_r (ry_assign rfl) ?_
          refine sq_nil ?_
          refine ex_then ?_
          refine cw_region ?_
          refine sq_r (ry_move rfl) ?_
          refine sq_r (ry_move rfl) ?_
          refine sq_r (ry_move rfl) ?_
          refine sq_r (ry_idxH rfl rfl i rfl (by omega)) ?_
          refine sq_r (ry_field rfl rfl) ?_
          refine sq_r (ry_elempH (j := 0) rfl i hg rfl (by decide)) ?_
          refine sq_callC rfl trivial fun x44 hp44 => ?_
          refine sq_append (s := s37) (ys := (rbytes g.r)) rfl rfl (by decide) (fun w hw => src_rows (s := x44) Try.underlying83 (by decide) ((inferInstance : Hd _ _ x44 benc 1 (rbytes g.r)).h w hw)) (by have := rbytes_length g.r; simp only [List.length_append, List.length_cons, List.length_nil]; omega) (by have := rbytes_length g.r; simp only [List.length_append, List.length_cons, List.length_nil]; omega) fun s45 hs45 hl45 => ?_
          refine sq_r (ry_assign rfl) ?_
          refine sq_nil ?_
          refine ex_block ?_
          refine ex_then ?_
          refine cw_region ?_
          refine sq_r (ry_move rfl) ?_
          refine sq_r (ry_add rfl rfl (by omega)) ?_
          refine sq_r (ry_assign rfl) ?_
          refine sq_nil ?_
          exact ex_again (x := (i, s1)) (i + 1, s45) ⟨by first | omega | (simp only []; omega), take_succ_all hi2 hg hgm⟩ (by simp only; omega) (Sub.cons rfl (Sub.cons rfl (Sub.cons rfl (Sub.nil _)))) (fun w hw => by simp only [List.append_assoc, List.cons_append, List.nil_append] at hw; rw [jbody_snoc hg, chbytes, if_neg (by rw [h3]; simp)]; exact Keep.mem hw)
    · try simp only [Bool.and_eq_true, Bool.or_eq_true, Bool.and_eq_false_iff, Bool.or_eq_false_iff, Bool.not_eq_true', Bool.not_eq_false', decide_eq_true_eq, decide_eq_false_iff_not, Bool.not_eq_true, Bool.not_eq_false] at h1
      obtain rfl : i = ls.length := by omega
      have he : jputE ls = 0 := by rw [jputE, if_neg (by omega), if_pos]; rw [List.all_eq_true]; intro x hx; exact hi2 x (by rw [List.take_length]; exact hx)
      refine cw_exit ?_
      refine ex_pass_exit ?_
      refine ex_pass_exit ?_
      refine ex_block_hit ?_
      refine ex_then ?_
      refine cw_seq ?_
      refine cw_region ?_
      refine sq_r (ry_move rfl) ?_
      refine sq_callC rfl (by omega) fun x47 hp47 => ?_
      refine sq_r (ry_assign rfl) ?_
      refine sq_r (ry_assign rfl) ?_
      refine sq_nil ?_
      refine ex_then ?_
      refine cw_ret ?_
      refine ex_ret (.inl rfl) (res_2 rfl (rv_tmp rfl) (rv_tmp rfl)) (fun w1 hw => ?_)
      exact ⟨x47, by rw [he], trivial, by rw [jputV, if_pos he]; exact Keep.mem hw⟩
instance rjput_i {w0 : World} {L : List Ent} {l : Sv} {ls : List Ch} [hl : HdE w0 L chcells 20 l ls] : FnC Try.prog 54 w0 L [l.val] (Sv) (fun zz => .tuple #[zz.val, .int .i64 (jputE ls)]) (fun zz => own benc 1 zz (jputV ls) :: L) (fun zz => True) (True) := ⟨fun hp w hw => (rjput_c w l ls (hl.h w hw)).mono fun e w' ⟨x, h1, h2, h3⟩ => ⟨x, h1, h2, hw.call h3⟩⟩
set_option maxRecDepth 20000 in
theorem rjadd_c (w : World) (j : Sv) (js : List UInt8) (l : Sv) (ls : List Ch) (hj : Lies benc 1 (hp w) j js) (hl : Lies chcells 20 (hp w) l ls) (hpre : js.length ≤ 900000) : Calls Try.prog 59 #[j.val, l.val] w fun e w' => ∃ zz : Sv × Bool, e = .returned (.tuple #[zz.1.val, .int .i64 (jputE ls)]) ∧ (zz.2 = true → zz.1 = j ∧ jaddV js ls = js) ∧ Mem w [selE zz.2 (own benc 1 zz.1 (jaddV js ls))] w' := by
  have ghj : Gv w j benc 1 js := ⟨hj⟩
  have ghl : Gv w l chcells 20 ls := ⟨hl⟩
  have hpl := jputV_length (l := ls)
  refine calls_of (args := [_, _]) Try.func59 rfl Try.ntmps59 rfl ?_
  change Cw _ _ _ _ _ [(0, j.val), (1, l.val)] []
  refine cw_seq ?_
  refine cw_region ?_
  refine sq_r (ry_assign rfl) ?_
  refine sq_r (ry_assign rfl) ?_
  refine sq_nil ?_
  refine ex_then ?_
  refine cw_seq ?_
  refine cw_region ?_
  refine sq_r (ry_move rfl) ?_
  refine sq_callC rfl trivial fun x10 hp10 => ?_
  refine sq_r (ry_move rfl) ?_
  refine sq_r (ry_extract (v := x10.val) rfl rfl) ?_
  refine sq_r (ry_extract (v := .int .i64 (jputE ls)) rfl rfl) ?_
  refine sq_r (ry_assign rfl) ?_
  refine sq_r (ry_assign rfl) ?_
  refine sq_nil ?_
  refine ex_then ?_
  refine cw_seq ?_
  refine cw_seq ?_
  refine cw_region ?_
  refine sq_r (ry_move rfl) ?_
  refine sq_r (ry_int rfl rfl rfl) ?_
  refine sq_nil ?_
  refine ex_then ?_
  refine cw_cond rfl (fun h0 => ?_) (fun h0 => ?_)
  · try simp only [Bool.and_eq_true, Bool.or_eq_true, Bool.and_eq_false_iff, Bool.or_eq_false_iff, Bool.not_eq_true', Bool.not_eq_false', decide_eq_true_eq, decide_eq_false_iff_not, Bool.not_eq_true, Bool.not_eq_false] at h0
    have he : ¬ jputE ls = 0 := h0
    refine cw_seq ?_
    refine cw_region ?_
    refine sq_r (ry_move rfl) ?_
    refine sq_r (ry_move rfl) ?_
    refine sq_r (ry_assign rfl) ?_
    refine sq_r (ry_assign rfl) ?_
    refine sq_nil ?_
    refine ex_then ?_
    refine cw_ret ?_
    refine ex_pass_ret ?_
    refine ex_ret (.inl rfl) (res_2 rfl (rv_tmp rfl) (rv_tmp rfl)) (fun w1 hw => ?_)
    exact ⟨(j, true), rfl, fun _ => ⟨rfl, by rw [jaddV, if_neg he]⟩, Mem.selT (Keep.mem hw)⟩
  · try simp only [Bool.and_eq_true, Bool.or_eq_true, Bool.and_eq_false_iff, Bool.or_eq_false_iff, Bool.not_eq_true', Bool.not_eq_false', decide_eq_true_eq, decide_eq_false_iff_not, Bool.not_eq_true, Bool.not_eq_false] at h0
    have he : jputE ls = 0 := by simpa using h0
    refine cw_skip ?_
    refine ex_then ?_
    refine cw_seq ?_
    refine cw_region ?_
    refine sq_build0 benc fun b17 => ?_
    refine sq_r (ry_move rfl) ?_
    refine sq_append (s := ⟨false, b17, 0, 0, 0, none⟩) (ys := js) rfl rfl (by decide) (fun w hw => src_rows (s := j) Try.underlying83 (by decide) ((inferInstance : Hd _ _ j benc 1 js).h w hw)) (by simp only [List.length_nil]; omega) (by simp only [List.length_nil]; omega) fun s19 hs19 hl19 => ?_
    refine sq_r (ry_move rfl) ?_
    refine sq_r (ry_lenH rfl) ?_
    refine sq_r (ry_convn rfl (by simp only [nb]; omega)) ?_
    refine sq_callC (vs := [_, .int .i64 ((2 : Nat) : Int)]) rfl ⟨by omega, by omega⟩ fun x23 hp23 => ?_
    refine sq_append (s := s19) (ys := (be ((jputV ls).length) 2)) rfl rfl (by decide) (fun w hw => src_rows (s := x23) Try.underlying83 (by decide) ((inferInstance : Hd _ _ x23 benc 1 (be ((jputV ls).length) 2)).h w hw)) (by simp only [List.nil_append, be_length]; omega) (by simp only [List.nil_append, be_length]; omega) fun s24 hs24 hl24 => ?_
    refine sq_r (ry_move rfl) ?_
    refine sq_append (s := s24) (ys := (jputV ls)) rfl rfl (by decide) (fun w hw => src_rows (s := x10) Try.underlying83 (by decide) ((inferInstance : Hd _ _ x10 benc 1 (jputV ls)).h w hw)) (by simp only [List.nil_append, List.length_append, be_length]; omega) (by simp only [List.nil_append, List.length_append, be_length]; omega) fun s26 hs26 hl26 => ?_
    refine sq_r (ry_assign rfl) ?_
    refine sq_r (ry_assign rfl) ?_
    refine sq_nil ?_
    refine ex_then ?_
    refine cw_ret ?_
    refine ex_ret (.inl rfl) (res_2 rfl (rv_tmp rfl) (rv_tmp rfl)) (fun w1 hw => ?_)
    exact ⟨(s26, false), by rw [he], (fun h => by cases h), by rw [jaddV, if_pos he]; rw [List.nil_append] at hw; exact Mem.selF (Keep.mem hw)⟩
instance rjadd_i {w0 : World} {L : List Ent} {j : Sv} {js : List UInt8} {l : Sv} {ls : List Ch} [hj : HdE w0 L benc 1 j js] [hl : HdE w0 L chcells 20 l ls] : FnC Try.prog 59 w0 L [j.val, l.val] (Sv × Bool) (fun zz => .tuple #[zz.1.val, .int .i64 (jputE ls)]) (fun zz => selE zz.2 (own benc 1 zz.1 (jaddV js ls)) :: L) (fun zz => zz.2 = true → zz.1 = j ∧ jaddV js ls = js) (js.length ≤ 900000) := ⟨fun hp w hw => (rjadd_c w j js l ls (hj.h w hw) (hl.h w hw) hp).mono fun e w' ⟨x, h1, h2, h3⟩ => ⟨x, h1, h2, hw.call h3⟩⟩

end Go.Proofs.Ytajhlgdapiihgaa

/- Journals by the reference, read: walked. -/
set_option linter.unusedSimpArgs false
set_option linter.unusedVariables false
namespace Go.Proofs.Ytajhlgdapiihgaa
open Go.Eng Go.Kb
instance (b : Bool) (r : Rt) : BuildT Try.prog 72 [(1, .bool b), (0, .agg (rcells r))] (.agg (chcells ⟨r, b⟩)) := ⟨fun w => by kernel_rfl⟩
set_option maxRecDepth 20000 in
theorem rjread_c (w : World) (b : Sv) (bs : List UInt8) (hb : Lies benc 1 (hp w) b bs) (hpre : bs.length ≤ 900000) : Calls Try.prog 56 #[b.val] w fun e w' => ∃ zz : Sv, e = .returned (.tuple #[zz.val, .int .i64 (jreadE bs)]) ∧ (True) ∧ Mem w [own chcells 20 zz (jreadV bs)] w' := by
  have ghb : Gv w b benc 1 bs := ⟨hb⟩
  have hde := de_two_lt (openV bs)
  have hov : Lies benc 1 (hp w) (openS b bs) (openV bs) := (inferInstance : HdE w [] benc 1 (openS b bs) (openV bs)).h w (Mem.init w)
  have gov : Gv w (openS b bs) benc 1 (openV bs) := ⟨hov⟩
  refine calls_of (args := [_]) Try.func56 rfl Try.ntmps56 rfl ?_
  change Cw _ _ _ _ _ [(0, b.val)] []
  refine cw_seq ?_
  refine cw_region ?_
  refine sq_r (ry_assign rfl) ?_
  refine sq_r (ry_assign rfl) ?_
  refine sq_nil ?_
  refine ex_then ?_
  refine cw_seq ?_
  refine cw_region ?_
  refine sq_r (ry_move rfl) ?_
  refine sq_y (yl_callC rfl (by omega)) ?_
  refine sq_r (ry_move rfl) ?_
  refine sq_r (ry_extract (v := (openS b bs).val) rfl rfl) ?_
  refine sq_r (ry_extract (v := .int .i64 (openE bs)) rfl rfl) ?_
  refine sq_r (ry_assign rfl) ?_
  refine sq_r (ry_assign rfl) ?_
  refine sq_nil ?_
  refine ex_then ?_
  refine cw_seq ?_
  refine cw_seq ?_
  refine cw_region ?_
  refine sq_r (ry_move rfl) ?_
  refine sq_r (ry_int rfl rfl rfl) ?_
  refine sq_nil ?_
  refine ex_then ?_
  refine cw_cond rfl (fun h0 => ?_) (fun h0 => ?_)
  · try simp only [Bool.and_eq_true, Bool.or_eq_true, Bool.and_eq_false_iff, Bool.or_eq_false_iff, Bool.not_eq_true', Bool.not_eq_false', decide_eq_true_eq, decide_eq_false_iff_not, Bool.not_eq_true, Bool.not_eq_false] at h0
    have he : jreadE bs = openE bs := if_neg h0
    refine cw_seq ?_
    refine cw_region ?_
    refine sq_r (ry_move rfl) ?_
    refine sq_r (ry_assign rfl) ?_
    refine sq_r (ry_assign rfl) ?_
    refine sq_nil ?_
    refine ex_then ?_
    refine cw_ret ?_
    refine ex_pass_ret ?_
    refine ex_ret (.inl rfl) (res_2 rfl (rv_tmp rfl) (rv_tmp rfl)) (fun w1 hw => ?_)
    exact ⟨Sv.none, by rw [he]; rfl, trivial, by rw [jreadV, if_neg (by rw [he]; exact h0)]; exact (Keep.mem hw : Mem w [] _).nilOwn chcells 20⟩
  · try simp only [Bool.and_eq_true, Bool.or_eq_true, Bool.and_eq_false_iff, Bool.or_eq_false_iff, Bool.not_eq_true', Bool.not_eq_false', decide_eq_true_eq, decide_eq_false_iff_not, Bool.not_eq_true, Bool.not_eq_false] at h0
    have ho : openE bs = 0 := by simpa using h0
    refine cw_skip ?_
    refine ex_then ?_
    refine cw_seq ?_
    refine cw_seq ?_
    refine cw_region ?_
    refine sq_r (ry_move rfl) ?_
    refine sq_r (ry_lenH rfl) ?_
    refine sq_r (ry_int rfl rfl rfl) ?_
    refine sq_r (ry_move rfl) ?_
    refine sq_gf rfl rfl rfl (fun hg => (Ry.yl (ry_move rfl))) ?_
    refine sq_gf rfl rfl rfl (fun hg => (Ry.yl (ry_lenH (ev_c hg rfl)))) ?_
    refine sq_gf rfl rfl rfl (fun hg => (Ry.yl (ry_int (ev_c hg rfl) rfl rfl))) ?_
    refine sq_r (ry_or rfl rfl rfl) ?_
    refine sq_nil ?_
    refine ex_then ?_
    refine cw_cond rfl (fun h1 => ?_) (fun h1 => ?_)
    · try simp only [Bool.and_eq_true, Bool.or_eq_true, Bool.and_eq_false_iff, Bool.or_eq_false_iff, Bool.not_eq_true', Bool.not_eq_false', decide_eq_true_eq, decide_eq_false_iff_not, Bool.not_eq_true, Bool.not_eq_false] at h1
      have hf : jform (openV bs) = false := by
        rw [jform]
        rcases h1 with h | h
        · rw [decide_eq_false (p := 2 ≤ (openV bs).length) (by omega)]; simp
        · by_cases hN : (de ((openV bs).take 2)) ≤ 200
          · rw [decide_eq_false (p := ((openV bs).drop 2).length = 21 * (de ((openV bs).take 2))) (by simp only [List.length_drop]; omega)]; simp
          · rw [decide_eq_false hN]; simp
      have he : jreadE bs = 2 := by rw [jreadE, if_pos ho, if_neg]; rw [hf]; simp
      refine cw_seq ?_
      refine cw_region ?_
      refine sq_r (ry_assign rfl) ?_
      refine sq_r (ry_assign rfl) ?_
      refine sq_nil ?_
      refine ex_then ?_
      refine cw_ret ?_
      refine ex_pass_ret ?_
      refine ex_ret (.inl rfl) (res_2 rfl (rv_tmp rfl) (rv_tmp rfl)) (fun w1 hw => ?_)
      exact ⟨Sv.none, by rw [he]; rfl, trivial, by rw [jreadV, if_neg (by rw [he]; decide)]; exact (Keep.mem hw : Mem w [] _).nilOwn chcells 20⟩
    · try simp only [Bool.and_eq_true, Bool.or_eq_true, Bool.and_eq_false_iff, Bool.or_eq_false_iff, Bool.not_eq_true', Bool.not_eq_false', decide_eq_true_eq, decide_eq_false_iff_not, Bool.not_eq_true, Bool.not_eq_false] at h1
      have hl2 : 2 ≤ (openV bs).length := by omega
      refine cw_skip ?_
      refine ex_then ?_
      refine cw_seq ?_
      refine cw_region ?_
      refine sq_r (ry_move rfl) ?_
      have rg29 : Rg 0 2 (openV bs).length := ⟨by omega⟩
      refine sq_r (ry_subH_hi rfl rfl 2 rfl rg29.h.2) ?_
      refine sq_y (yl_callC rfl (by simp; omega)) ?_
      refine sq_r (Ry.to (v' := .int .i64 (((de ((openV bs).take 2)) : Nat) : Int)) (ry_convn rfl (by simp only [nb, List.drop_zero, Nat.sub_zero]; omega)) (by rw [List.drop_zero, Nat.sub_zero])) ?_
      refine sq_r (ry_assign rfl) ?_
      refine sq_nil ?_
      refine ex_then ?_
      refine cw_seq ?_
      refine cw_seq ?_
      refine cw_region ?_
      refine sq_r (ry_move rfl) ?_
      refine sq_r (ry_lenH rfl) ?_
      refine sq_r (ry_move rfl) ?_
      refine sq_r (ry_mul rfl rfl (by omega)) ?_
      refine sq_r (ry_add rfl rfl (by omega)) ?_
      refine sq_r (ry_int rfl rfl rfl) ?_
      refine sq_nil ?_
      refine ex_then ?_
      refine cw_cond rfl (fun h2 => ?_) (fun h2 => ?_)
      · try simp only [Bool.and_eq_true, Bool.or_eq_true, Bool.and_eq_false_iff, Bool.or_eq_false_iff, Bool.not_eq_true', Bool.not_eq_false', decide_eq_true_eq, decide_eq_false_iff_not, Bool.not_eq_true, Bool.not_eq_false] at h2
        have hf : jform (openV bs) = false := by
          rw [jform, decide_eq_false (p := ((openV bs).drop 2).length = 21 * (de ((openV bs).take 2))) (by simp only [List.length_drop]; omega)]; simp
        have he : jreadE bs = 2 := by rw [jreadE, if_pos ho, if_neg]; rw [hf]; simp
        refine cw_seq ?_
        refine cw_region ?_
        refine sq_r (ry_assign rfl) ?_
        refine sq_r (ry_assign rfl) ?_
        refine sq_nil ?_
        refine ex_then ?_
        refine cw_ret ?_
        refine ex_pass_ret ?_
        refine ex_ret (.inl rfl) (res_2 rfl (rv_tmp rfl) (rv_tmp rfl)) (fun w1 hw => ?_)
        exact ⟨Sv.none, by rw [he]; rfl, trivial, by rw [jreadV, if_neg (by rw [he]; decide)]; exact (Keep.mem hw : Mem w [] _).nilOwn chcells 20⟩
      · try simp only [Bool.and_eq_true, Bool.or_eq_true, Bool.and_eq_false_iff, Bool.or_eq_false_iff, Bool.not_eq_true', Bool.not_eq_false', decide_eq_true_eq, decide_eq_false_iff_not, Bool.not_eq_true, Bool.not_eq_false] at h2
        have hn2 : ((openV bs).drop 2).length = 21 * (de ((openV bs).take 2)) := by simp only [List.length_drop]; omega
        have hn1 : (de ((openV bs).take 2)) ≤ 200 := by omega
        refine cw_skip ?_
        refine ex_then ?_
        refine cw_seq ?_
        refine cw_region ?_
        refine sq_r (ry_assign rfl) ?_
        refine sq_nil ?_
        refine ex_then ?_
        refine cw_seq ?_
        refine cw_seq ?_
        refine cw_region ?_
        refine sq_r (ry_assign rfl) ?_
        refine sq_nil ?_
        refine ex_then ?_
        refine cw_block ?_
        refine cw_loop (X := Nat × Sv) (fun zz => [(8, .int .i64 (zz.1 : Nat)), (7, zz.2.val), (4, (openS b bs).val), (6, .int .i64 ((de ((openV bs).take 2)) : Nat))]) (fun zz => [own chcells 20 zz.2 (jgo ((openV bs).drop 2) zz.1)]) (fun zz => zz.1 ≤ (de ((openV bs).take 2)) ∧ jgok ((openV bs).drop 2) zz.1 = true) (fun zz => (de ((openV bs).take 2)) - zz.1) (0, Sv.none) ⟨Nat.zero_le _, rfl⟩ (Sub.cons rfl (Sub.cons rfl (Sub.cons rfl (Sub.cons rfl (Sub.nil _))))) (fun w hw => Mem.nilOwn chcells 20 hw) ?_
        rintro ⟨i, o⟩ ⟨hi1, hi2⟩
        dsimp only
        simp only at hi1 hi2
        have hgl := jgo_length ((openV bs).drop 2) i
        refine cw_seq ?_
        refine cw_seq ?_
        refine cw_region ?_
        refine sq_r (ry_move rfl) ?_
        refine sq_r (ry_move rfl) ?_
        refine sq_r (ry_int rfl rfl rfl) ?_
        refine sq_nil ?_
        refine ex_then ?_
        refine cw_cond rfl (fun h3 => ?_) (fun h3 => ?_)
        · try simp only [Bool.and_eq_true, Bool.or_eq_true, Bool.and_eq_false_iff, Bool.or_eq_false_iff, Bool.not_eq_true', Bool.not_eq_false', decide_eq_true_eq, decide_eq_false_iff_not, Bool.not_eq_true, Bool.not_eq_false] at h3
          refine cw_skip ?_
          refine ex_then ?_
          refine cw_seq ?_
          refine cw_block ?_
          refine cw_seq ?_
          obtain ⟨z50, hz50⟩ : ∃ z, z = (openS b bs).sub 1 (2 + 21 * i) (23 + 21 * i) := ⟨_, rfl⟩
          have gz : Gv w z50 benc 1 (chunk ((openV bs).drop 2) i) := ⟨by have := hov.sub (lo := 2 + 21 * i) (hi := 23 + 21 * i) (by omega) (by simp only [List.length_drop] at hn2; omega); rw [chunk_ref] at this; rw [hz50]; exact this⟩
          have hcl : (chunk ((openV bs).drop 2) i).length = 21 := chunk_length hn2 (by omega)
          have eg : ∀ (i_1 : Nat) e, (chunk ((openV bs).drop 2) i)[i_1]? = some e → (chunk ((openV bs).drop 2) i).getD i_1 0 = e := fun i e h => by simp [List.getD, h]
          obtain ⟨x0, hx0⟩ := get_some (xs := (chunk ((openV bs).drop 2) i)) (i := 0) (by omega)
          obtain ⟨x1, hx1⟩ := get_some (xs := (chunk ((openV bs).drop 2) i)) (i := 1) (by omega)
          obtain ⟨x2, hx2⟩ := get_some (xs := (chunk ((openV bs).drop 2) i)) (i := 2) (by omega)
          obtain ⟨x18, hx18⟩ := get_some (xs := (chunk ((openV bs).drop 2) i)) (i := 19) (by omega)
          obtain ⟨x19, hx19⟩ := get_some (xs := (chunk ((openV bs).drop 2) i)) (i := 20) (by omega)
          have eg0 := eg 0 x0 hx0
          have eg1 := eg 1 x1 hx1
          have hrd := rdch_at hx0 hx1 hx2 hx18 hx19
          have le1 : ∀ x : UInt8, x ≤ 1 ↔ (x.toNat : Int) ≤ 1 := fun x => by rw [UInt8.le_iff_toNat_le]; simp; omega
          refine cw_region ?_
          refine sq_r (ry_move rfl) ?_
          refine sq_r (ry_move rfl) ?_
          refine sq_r (ry_mul rfl rfl (by omega)) ?_
          refine sq_r (ry_add rfl rfl (by omega)) ?_
          refine sq_r (ry_move rfl) ?_
          refine sq_r (ry_mul rfl rfl (by omega)) ?_
          refine sq_r (ry_add rfl rfl (by omega)) ?_
          have rg50 : Rg (2 + (21 * i)) (23 + (21 * i)) (openV bs).length := ⟨by omega⟩
          refine sq_r (Ry.to (v' := z50.val) (ry_subH rfl rfl rfl (2 + 21 * i) (23 + 21 * i) (by omega) (by omega) (by omega) (by simp only [List.length_drop] at hn2; omega)) (by rw [hz50])) ?_
          refine sq_r (ry_assign rfl) ?_
          refine sq_nil ?_
          refine ex_then ?_
          refine cw_seq ?_
          refine cw_lin [15, 16] [[], [], [], [], [], [], [], [], [], [], [], [], [], [], [], [], [15]] [0, 1, 2, 3, 4, 5, 6, 7, 8, 9, 10, 11, 12, 13, 14, 15, 16] [] (fun _ hw => Keep.mem hw) (by kernel_rfl) (by kernel_rfl) ?_
          refine ln_r rfl (ry_move rfl) ?_
          refine ln_r rfl (ry_idxH rfl rfl 0 rfl (by omega)) ?_
          refine ln_r rfl (ry_elemcH (j := 0) rfl 0 hx0 rfl (by decide)) ?_
          refine ln_r rfl (ry_int rfl rfl rfl) ?_
          refine ln_r rfl (ry_move rfl) ?_
          refine ln_r rfl (ry_idxH rfl rfl 2 rfl (by omega)) ?_
          refine ln_r rfl (ry_elemcH (j := 0) rfl 2 hx2 rfl (by decide)) ?_
          refine ln_r rfl (ry_conv_u8 rfl) ?_
          refine ln_r rfl (ry_buildc rfl) ?_
          refine ln_r rfl (ry_move rfl) ?_
          have rg61 : Rg 19 21 (chunk ((openV bs).drop 2) i).length := ⟨by omega⟩
          refine ln_r rfl (ry_subH rfl rfl rfl 19 21 rfl rfl rg61.h.1 rg61.h.2) ?_
          refine ln_y rfl (yl_callC rfl (by simp; omega)) ?_
          refine ln_r rfl (ry_conv rfl (show IntKind.u16.wrap _ = ((hop16 x18 x19).toNat : Int) from by rw [de_two hx18 hx19 rfl]; exact wrap_nat (by simp only [nb]; exact (hop16 x18 x19).toNat_lt))) ?_
          refine ln_r rfl (ry_buildc rfl) ?_
          refine ln_r rfl (ry_buildc rfl) ?_
          refine ln_st rfl (st_allocA fun b10 => ⟨fun _ hw => Keep.mem hw, ?_⟩)
          refine ln_st rfl (st_storeW rfl rfl ⟨fun _ hw => Keep.mem hw, ?_⟩)
          refine ln_nil ?_
          refine ex_then ?_
          refine cw_cut (X := Unit) (fun zz => [(4, (openS b bs).val), (6, .int .i64 ((de ((openV bs).take 2)) : Nat)), (7, o.val), (8, .int .i64 (i : Nat)), (9, z50.val), (10, .pointer (some ⟨b10, 0, none⟩))]) (fun zz => [blk b10 (chcells ⟨⟨⟨(if x1 = 1 then 128 else 32), x2.toNat, 0#128⟩, hop16 x18 x19⟩, decide ((x0.toNat : Int) = 1)⟩) 72, own chcells 20 o (jgo ((openV bs).drop 2) i)]) (fun zz => True) ?_ ?_
          · refine cw_seq ?_
            refine cw_region ?_
            refine sq_r (ry_move rfl) ?_
            refine sq_r (ry_idxH rfl rfl 1 rfl (by omega)) ?_
            refine sq_r (ry_elemcH (j := 0) rfl 1 hx1 rfl (by decide)) ?_
            refine sq_r (ry_int rfl rfl rfl) ?_
            refine sq_nil ?_
            refine ex_then ?_
            refine cw_cond rfl (fun h4 => ?_) (fun h4 => ?_)
            · try simp only [Bool.and_eq_true, Bool.or_eq_true, Bool.and_eq_false_iff, Bool.or_eq_false_iff, Bool.not_eq_true', Bool.not_eq_false', decide_eq_true_eq, decide_eq_false_iff_not, Bool.not_eq_true, Bool.not_eq_false] at h4
              have h1x : x1 = 1 := UInt8.toNat_inj.1 (by simp; omega)
              refine cw_region ?_
              refine sq_r (ry_field (o' := 0) rfl rfl) ?_
              refine sq_r (ry_field (o' := 0) rfl rfl) ?_
              refine sq_r (ry_field (o' := 0) rfl rfl) ?_
              refine sq_store rfl rfl (by rw [chcells_size]; decide) rfl (chcells_set (by decide) (rcells_set0 _ _)) ?_
              refine sq_nil ?_
              exact ex_meet () trivial (Sub.cons rfl (Sub.cons rfl (Sub.cons rfl (Sub.cons rfl (Sub.cons rfl (Sub.cons rfl (Sub.nil _))))))) (fun w hw => by rw [if_pos h1x]; exact hw)
            · try simp only [Bool.and_eq_true, Bool.or_eq_true, Bool.and_eq_false_iff, Bool.or_eq_false_iff, Bool.not_eq_true', Bool.not_eq_false', decide_eq_true_eq, decide_eq_false_iff_not, Bool.not_eq_true, Bool.not_eq_false] at h4
              have h1x : ¬ x1 = 1 := fun h => by subst h; simp at h4
              refine cw_skip ?_
              exact ex_meet () trivial (Sub.cons rfl (Sub.cons rfl (Sub.cons rfl (Sub.cons rfl (Sub.cons rfl (Sub.cons rfl (Sub.nil _))))))) (fun w hw => by rw [if_neg h1x]; exact hw)
          · rintro ⟨⟩ hJ
            refine cw_seq ?_
            refine cw_seq ?_
            refine cw_region ?_
            refine sq_r (ry_assign rfl) ?_
            refine sq_nil ?_
            refine ex_then ?_
            refine cw_block ?_
            refine cw_loop (X := Nat) (fun zz => [(11, .int .i64 (zz : Nat)), (4, (openS b bs).val), (6, .int .i64 ((de ((openV bs).take 2)) : Nat)), (7, o.val), (8, .int .i64 (i : Nat)), (9, z50.val), (10, .pointer (some ⟨b10, 0, none⟩))]) (fun zz => [blk b10 (chcells ⟨⟨⟨(if x1 = 1 then 128 else 32), x2.toNat, kpre (fun j => ((chunk ((openV bs).drop 2) i).getD (3 + j) 0).toNat) zz⟩, hop16 x18 x19⟩, decide ((x0.toNat : Int) = 1)⟩) 72, own chcells 20 o (jgo ((openV bs).drop 2) i)]) (fun zz => zz ≤ 16) (fun zz => 16 - zz) 0 (by first | omega | (simp only []; omega)) (Sub.cons rfl (Sub.cons rfl (Sub.cons rfl (Sub.cons rfl (Sub.cons rfl (Sub.cons rfl (Sub.cons rfl (Sub.nil _)))))))) (fun w hw => by rw [kpre_zero]; exact hw) ?_
            rintro n hn
            refine cw_seq ?_
            refine cw_seq ?_
            refine cw_region ?_
            refine sq_r (ry_move rfl) ?_
            refine sq_r (ry_int rfl rfl rfl) ?_
            refine sq_nil ?_
            refine ex_then ?_
            refine cw_cond rfl (fun h5 => ?_) (fun h5 => ?_)
            · try simp only [Bool.and_eq_true, Bool.or_eq_true, Bool.and_eq_false_iff, Bool.or_eq_false_iff, Bool.not_eq_true', Bool.not_eq_false', decide_eq_true_eq, decide_eq_false_iff_not, Bool.not_eq_true, Bool.not_eq_false] at h5
              refine cw_skip ?_
              refine ex_then ?_
              refine cw_seq ?_
              refine cw_block ?_
              refine cw_region ?_
              refine sq_r (ry_move rfl) ?_
              refine sq_r (ry_move rfl) ?_
              refine sq_r (ry_move rfl) ?_
              refine sq_r (ry_add rfl rfl (by omega)) ?_
              obtain ⟨e81, he81⟩ := get_some (xs := (chunk ((openV bs).drop 2) i)) (i := (3 + n)) (by omega)
              refine sq_r (ry_idxH rfl rfl (3 + n) rfl (by omega)) ?_
              refine sq_r (ry_elemcH (j := 0) rfl (3 + n) he81 rfl (by decide)) ?_
              have hst : ∀ b l h, (chcells ⟨⟨⟨b, l, kpre (fun j => ((chunk ((openV bs).drop 2) i).getD (3 + j) 0).toNat) n⟩, h⟩, decide ((x0.toNat : Int) = 1)⟩).setIfInBounds (2 + Int.toNat (n : Int) * 1) (.int .u8 e81.toNat) = chcells ⟨⟨⟨b, l, kpre (fun j => ((chunk ((openV bs).drop 2) i).getD (3 + j) 0).toNat) (n + 1)⟩, h⟩, decide ((x0.toNat : Int) = 1)⟩ := fun b l h => by
                rw [Int.toNat_natCast, Nat.mul_one, ← eg (3 + n) e81 he81]
                exact chcells_set (by omega) (rcells_kpre (f := (fun j => ((chunk ((openV bs).drop 2) i).getD (3 + j) 0).toNat)) (by omega) (UInt8.toNat_lt _))
              refine sq_r (ry_field (o' := 0) rfl rfl) ?_
              refine sq_r (ry_field (o' := 0) rfl rfl) ?_
              refine sq_r (ry_field (o' := 2) rfl rfl) ?_
              refine sq_r (ry_idxA rfl rfl (by omega) (by omega)) ?_
              refine sq_store (o := 2 + Int.toNat (n : Int) * 1) rfl rfl (by rw [chcells_size]; omega) rfl (hst _ _ _) ?_
              refine sq_nil ?_
              refine ex_block ?_
              refine ex_then ?_
              refine cw_region ?_
              refine sq_r (ry_move rfl) ?_
              refine sq_r (ry_add rfl rfl (by omega)) ?_
              refine sq_r (ry_assign rfl) ?_
              refine sq_nil ?_
              exact ex_again (x := (n)) (n + 1) (by first | omega | (simp only []; omega)) (by first | omega | (simp only []; omega)) (Sub.cons rfl (Sub.cons rfl (Sub.cons rfl (Sub.cons rfl (Sub.cons rfl (Sub.cons rfl (Sub.cons rfl (Sub.nil _)))))))) (fun w hw => Keep.mem hw)
            · try simp only [Bool.and_eq_true, Bool.or_eq_true, Bool.and_eq_false_iff, Bool.or_eq_false_iff, Bool.not_eq_true', Bool.not_eq_false', decide_eq_true_eq, decide_eq_false_iff_not, Bool.not_eq_true, Bool.not_eq_false] at h5
              obtain rfl : n = 16 := by omega
              refine cw_exit ?_
              refine ex_pass_exit ?_
              refine ex_pass_exit ?_
              refine ex_block_hit ?_
              refine ex_then ?_
              refine cw_seq ?_
              refine cw_seq ?_
              refine cw_region ?_
              refine sq_r (ry_move rfl) ?_
              refine sq_r (ry_idxH rfl rfl 0 rfl (by omega)) ?_
              refine sq_r (ry_elemcH (j := 0) rfl 0 hx0 rfl (by decide)) ?_
              refine sq_r (ry_int rfl rfl rfl) ?_
              refine sq_r (ry_move rfl) ?_
              refine sq_gf rfl rfl rfl (fun hg => (Ry.yl (ry_move rfl))) ?_
              refine sq_gf rfl rfl rfl (fun hg => (Ry.yl (ry_idxH (ev_c hg rfl) rfl 1 rfl (by simp only [Bool.and_eq_true, Bool.or_eq_true, Bool.and_eq_false_iff, Bool.or_eq_false_iff, Bool.not_eq_true', Bool.not_eq_false', decide_eq_true_eq, decide_eq_false_iff_not, Bool.not_eq_true, Bool.not_eq_false] at hg; omega)))) ?_
              refine sq_gf rfl rfl rfl (fun hg => (Ry.yl (ry_elemcH (j := 0) (ev_c hg rfl) 1 hx1 rfl (by decide)))) ?_
              refine sq_gf rfl rfl rfl (fun hg => (Ry.yl (ry_int (ev_c hg rfl) rfl rfl))) ?_
              refine sq_r (ry_or rfl rfl rfl) ?_
              refine sq_r (ry_move rfl) ?_
              refine sq_gf rfl rfl rfl (fun hg => (Ry.yl (ry_field (o' := 0) rfl rfl))) ?_
              refine sq_gf rfl rfl rfl (fun hg => (Ry.yl (ry_field (o' := 0) (ev_c hg rfl) rfl))) ?_
              refine sq_gf rfl rfl rfl (fun hg => (Ry.yl (ry_part (ev_c hg rfl)))) ?_
              refine sq_gf rfl rfl rfl (fun hg => yl_callC (evl_cons (ev_c hg rfl) evl_nil) trivial) ?_
              refine sq_gf rfl rfl rfl (fun hg => (Ry.yl (ry_not (ev_c hg rfl)))) ?_
              refine sq_r (ry_or rfl rfl rfl) ?_
              refine sq_nil ?_
              refine ex_then ?_
              refine cw_cond rfl (fun h6 => ?_) (fun h6 => ?_)
              · try simp only [Bool.and_eq_true, Bool.or_eq_true, Bool.and_eq_false_iff, Bool.or_eq_false_iff, Bool.not_eq_true', Bool.not_eq_false', decide_eq_true_eq, decide_eq_false_iff_not, Bool.not_eq_true, Bool.not_eq_false] at h6
                have hno : rdcok (chunk ((openV bs).drop 2) i) = false := by
                  rw [rdcok, rdcok1, eg0, eg1, hrd]
                  rcases h6 with (h | h) | h
                  · rw [decide_eq_false (p := x0 ≤ 1) (by rw [le1]; omega)]; rfl
                  · rw [decide_eq_false (p := x1 ≤ 1) (by rw [le1]; omega)]; simp
                  · rw [h]; simp
                have hf : jform (openV bs) = false := by rw [jform, jgok_no (i := i) (by omega) hno]; simp
                have he : jreadE bs = 2 := by rw [jreadE, if_pos ho, if_neg]; rw [hf]; simp
                refine cw_seq ?_
                refine cw_region ?_
                refine sq_r (ry_assign rfl) ?_
                refine sq_r (ry_assign rfl) ?_
                refine sq_nil ?_
                refine ex_then ?_
                refine cw_ret ?_
                refine ex_pass_ret ?_
                refine ex_block_ret ?_
                refine ex_pass_ret ?_
                refine ex_pass_ret ?_
                refine ex_block_ret ?_
                refine ex_pass_ret ?_
                refine ex_ret (.inl rfl) (res_2 rfl (rv_tmp rfl) (rv_tmp rfl)) (fun w1 hw => ?_)
                exact ⟨Sv.none, by rw [he]; rfl, trivial, by rw [jreadV, if_neg (by rw [he]; decide)]; exact (Keep.mem hw : Mem w [] _).nilOwn chcells 20⟩
              · try simp only [Bool.and_eq_true, Bool.or_eq_true, Bool.and_eq_false_iff, Bool.or_eq_false_iff, Bool.not_eq_true', Bool.not_eq_false', decide_eq_true_eq, decide_eq_false_iff_not, Bool.not_eq_true, Bool.not_eq_false] at h6
                have hok : rdcok (chunk ((openV bs).drop 2) i) = true := by
                  obtain ⟨⟨g1, g2⟩, g3⟩ := h6
                  rw [rdcok, rdcok1, eg0, eg1, hrd, g3, decide_eq_true (p := x0 ≤ 1) (by rw [le1]; omega), decide_eq_true (p := x1 ≤ 1) (by rw [le1]; omega)]; rfl
                refine cw_skip ?_
                refine ex_then ?_
                refine cw_region ?_
                refine sq_r (ry_move rfl) ?_
                refine sq_r (ry_whole rfl) ?_
                refine sq_buildSlice (enc := chcells) (vals := [_]) [(⟨⟨⟨(if x1 = 1 then 128 else 32), x2.toNat, kpre (fun j => ((chunk ((openV bs).drop 2) i).getD (3 + j) 0).toNat) 16⟩, hop16 x18 x19⟩, decide ((x0.toNat : Int) = 1)⟩ : Ch)] rfl rfl rfl (by decide) (by decide) fun b106 => ?_
                refine sq_append (s := o) (ys := [(⟨⟨⟨(if x1 = 1 then 128 else 32), x2.toNat, kpre (fun j => ((chunk ((openV bs).drop 2) i).getD (3 + j) 0).toNat) 16⟩, hop16 x18 x19⟩, decide ((x0.toNat : Int) = 1)⟩ : Ch)]) rfl rfl (by decide) (fun w hw => src_rows (s := ⟨false, b106, 0, 1, 1, none⟩) Try.underlying73 (by decide) ((inferInstance : Hd _ _ ⟨false, b106, 0, 1, 1, none⟩ chcells 20 [(⟨⟨⟨(if x1 = 1 then 128 else 32), x2.toNat, kpre (fun j => ((chunk ((openV bs).drop 2) i).getD (3 + j) 0).toNat) 16⟩, hop16 x18 x19⟩, decide ((x0.toNat : Int) = 1)⟩ : Ch)]).h w hw)) (by simp only [List.length_cons, List.length_nil]; omega) (by simp only [List.length_cons, List.length_nil]; omega) fun s107 hs107 hl107 => ?_
                refine sq_r (ry_assign rfl) ?_
                refine sq_nil ?_
                refine ex_block ?_
                refine ex_then ?_
                refine cw_region ?_
                refine sq_r (ry_move rfl) ?_
                refine sq_r (ry_add rfl rfl (by omega)) ?_
                refine sq_r (ry_assign rfl) ?_
                refine sq_nil ?_
                exact ex_again (x := (i, o)) (i + 1, s107) ⟨by first | omega | (simp only []; omega), by rw [jgok_succ, hi2, hok]; rfl⟩ (by simp only; omega) (Sub.cons rfl (Sub.cons rfl (Sub.cons rfl (Sub.cons rfl (Sub.nil _))))) (fun w hw => by rw [← hrd] at hw; rw [jgo_succ]; exact Keep.mem hw)
        · try simp only [Bool.and_eq_true, Bool.or_eq_true, Bool.and_eq_false_iff, Bool.or_eq_false_iff, Bool.not_eq_true', Bool.not_eq_false', decide_eq_true_eq, decide_eq_false_iff_not, Bool.not_eq_true, Bool.not_eq_false] at h3
          obtain rfl : i = (de ((openV bs).take 2)) := by omega
          have he : jreadE bs = 0 := by rw [jreadE, if_pos ho, if_pos]; rw [jform, hi2, decide_eq_true hl2, decide_eq_true hn1, decide_eq_true hn2]; rfl
          refine cw_exit ?_
          refine ex_pass_exit ?_
          refine ex_pass_exit ?_
          refine ex_block_hit ?_
          refine ex_then ?_
          refine cw_seq ?_
          refine cw_region ?_
          refine sq_r (ry_move rfl) ?_
          refine sq_r (ry_assign rfl) ?_
          refine sq_r (ry_assign rfl) ?_
          refine sq_nil ?_
          refine ex_then ?_
          refine cw_ret ?_
          refine ex_ret (.inl rfl) (res_2 rfl (rv_tmp rfl) (rv_tmp rfl)) (fun w1 hw => ?_)
          exact ⟨o, by rw [he], trivial, by rw [jreadV, if_pos he]; exact Keep.mem hw⟩
instance rjread_i {w0 : World} {L : List Ent} {b : Sv} {bs : List UInt8} [hb : HdE w0 L benc 1 b bs] : FnC Try.prog 56 w0 L [b.val] (Sv) (fun zz => .tuple #[zz.val, .int .i64 (jreadE bs)]) (fun zz => own chcells 20 zz (jreadV bs) :: L) (fun zz => True) (bs.length ≤ 900000) := ⟨fun hp w hw => (rjread_c w b bs (hb.h w hw) hp).mono fun e w' ⟨x, h1, h2, h3⟩ => ⟨x, h1, h2, hw.call h3⟩⟩

end Go.Proofs.Ytajhlgdapiihgaa

/- Journals by the reference, played: walked. -/
set_option linter.unusedSimpArgs false
set_option linter.unusedVariables false
namespace Go.Proofs.Ytajhlgdapiihgaa
open Go.Eng Go.Kb
set_option maxRecDepth 20000 in
theorem rjall_c (w : World) (j : Sv) (js : List UInt8) (hj : Lies benc 1 (hp w) j js) (hpre : js.length ≤ 900000) : Calls Try.prog 61 #[j.val] w fun e w' => ∃ zz : Sl (Sl Ch), e = .returned (.tuple #[zz.sv.val, .int .i64 (((allJ js).2) : Nat)]) ∧ (lc zz = (allJ js).1) ∧ Mem w [Deep.ent zz] w' := by
  have ghj : Gv w j benc 1 js := ⟨hj⟩
  refine calls_of (args := [_]) Try.func61 rfl Try.ntmps61 rfl ?_
  change Cw _ _ _ _ _ [(0, j.val)] []
  refine cw_seq ?_
  refine cw_region ?_
  refine sq_r (ry_assign rfl) ?_
  refine sq_r (ry_assign rfl) ?_
  refine sq_nil ?_
  refine ex_then ?_
  refine cw_seq ?_
  refine cw_region ?_
  refine sq_r (ry_assign rfl) ?_
  refine sq_nil ?_
  refine ex_then ?_
  refine cw_seq ?_
  refine cw_region ?_
  refine sq_r (ry_assign rfl) ?_
  refine sq_nil ?_
  refine ex_then ?_
  refine cw_seq ?_
  refine cw_block ?_
  refine cw_loop (X := Nat × Sl (Sl Ch)) (fun zz => [(5, .int .i64 (zz.1 : Nat)), (4, zz.2.sv.val), (0, j.val)]) (fun zz => [Deep.ent zz.2]) (fun zz => zz.1 ≤ js.length ∧ allJ js = (lc zz.2 ++ (allJ (js.drop zz.1)).1, zz.1 + (allJ (js.drop zz.1)).2) ∧ zz.2.xs.length ≤ zz.1) (fun zz => js.length - zz.1) (0, ⟨Sv.none, []⟩) ⟨Nat.zero_le _, by simp [lc], Nat.le_refl _⟩ (Sub.cons rfl (Sub.cons rfl (Sub.cons rfl (Sub.nil _)))) (fun w hw => Mem.nilEnt (enc := scells) (c := 1) hw) ?_
  rintro ⟨d, a⟩ ⟨hi1, hi2, hi3⟩
  dsimp only
  simp only at hi1 hi2 hi3
  have hM := de_two_lt (js.drop d)
  refine cw_seq ?_
  refine cw_seq ?_
  refine cw_region ?_
  refine sq_r (ry_move rfl) ?_
  refine sq_r (ry_add rfl rfl (by omega)) ?_
  refine sq_r (ry_move rfl) ?_
  refine sq_r (ry_lenH rfl) ?_
  refine sq_r (ry_int rfl rfl rfl) ?_
  refine sq_nil ?_
  refine ex_then ?_
  refine cw_cond rfl (fun h0 => ?_) (fun h0 => ?_)
  · try simp only [Bool.and_eq_true, Bool.or_eq_true, Bool.and_eq_false_iff, Bool.or_eq_false_iff, Bool.not_eq_true', Bool.not_eq_false', decide_eq_true_eq, decide_eq_false_iff_not, Bool.not_eq_true, Bool.not_eq_false] at h0
    have hl1 : ¬ (js.drop d).length < 2 := by rw [List.length_drop]; omega
    refine cw_skip ?_
    refine ex_then ?_
    refine cw_block ?_
    refine cw_seq ?_
    refine cw_region ?_
    refine sq_r (ry_move rfl) ?_
    refine sq_r (ry_move rfl) ?_
    refine sq_r (ry_move rfl) ?_
    refine sq_r (ry_add rfl rfl (by omega)) ?_
    have rg18 : Rg d (d + 2) js.length := ⟨by omega⟩
    refine sq_r (ry_subH rfl rfl rfl d (d + 2) rfl rfl rg18.h.1 rg18.h.2) ?_
    refine sq_y (yl_callC rfl (by rw [show d + 2 - d = 2 by omega, List.length_take]; omega)) ?_
    refine sq_r (Ry.to (v' := .int .i64 (((de ((js.drop d).take 2)) : Nat) : Int)) (ry_convn rfl (by simp only [nb, show d + 2 - d = 2 by omega]; omega)) (by rw [show d + 2 - d = 2 by omega])) ?_
    refine sq_r (ry_assign rfl) ?_
    refine sq_nil ?_
    refine ex_then ?_
    refine cw_seq ?_
    refine cw_seq ?_
    refine cw_region ?_
    refine sq_r (ry_move rfl) ?_
    refine sq_r (ry_add rfl rfl (by omega)) ?_
    refine sq_r (ry_move rfl) ?_
    refine sq_r (ry_add rfl rfl (by omega)) ?_
    refine sq_r (ry_move rfl) ?_
    refine sq_r (ry_lenH rfl) ?_
    refine sq_r (ry_int rfl rfl rfl) ?_
    refine sq_nil ?_
    refine ex_then ?_
    refine cw_cond rfl (fun h1 => ?_) (fun h1 => ?_)
    · try simp only [Bool.and_eq_true, Bool.or_eq_true, Bool.and_eq_false_iff, Bool.or_eq_false_iff, Bool.not_eq_true', Bool.not_eq_false', decide_eq_true_eq, decide_eq_false_iff_not, Bool.not_eq_true, Bool.not_eq_false] at h1
      have hz : allJ js = (lc a, d) := by rw [hi2, allJ_cut (by rw [List.length_drop]; omega), List.append_nil]; rfl
      refine cw_seq ?_
      refine cw_region ?_
      refine sq_r (ry_move rfl) ?_
      refine sq_r (ry_move rfl) ?_
      refine sq_r (ry_assign rfl) ?_
      refine sq_r (ry_assign rfl) ?_
      refine sq_nil ?_
      refine ex_then ?_
      refine cw_ret ?_
      refine ex_pass_ret ?_
      refine ex_block_ret ?_
      refine ex_pass_ret ?_
      refine ex_block_ret ?_
      refine ex_pass_ret ?_
      refine ex_ret (.inl rfl) (res_2 rfl (rv_tmp rfl) (rv_tmp rfl)) (fun w1 hw => ?_)
      exact ⟨a, by rw [hz], by rw [hz], Keep.mem hw⟩
    · try simp only [Bool.and_eq_true, Bool.or_eq_true, Bool.and_eq_false_iff, Bool.or_eq_false_iff, Bool.not_eq_true', Bool.not_eq_false', decide_eq_true_eq, decide_eq_false_iff_not, Bool.not_eq_true, Bool.not_eq_false] at h1
      have hl2 : ¬ (js.drop d).length < 2 + (de ((js.drop d).take 2)) := by rw [List.length_drop]; omega
      refine cw_skip ?_
      refine ex_then ?_
      refine cw_seq ?_
      refine cw_region ?_
      refine sq_r (ry_move rfl) ?_
      refine sq_r (ry_move rfl) ?_
      refine sq_r (ry_add rfl rfl (by omega)) ?_
      refine sq_r (ry_move rfl) ?_
      refine sq_r (ry_add rfl rfl (by omega)) ?_
      refine sq_r (ry_move rfl) ?_
      refine sq_r (ry_add rfl rfl (by omega)) ?_
      have rg38 : Rg (d + 2) ((d + 2) + (de ((js.drop d).take 2))) js.length := ⟨by omega⟩
      refine sq_r (ry_subH rfl rfl rfl (d + 2) ((d + 2) + (de ((js.drop d).take 2))) rfl rfl rg38.h.1 rg38.h.2) ?_
      refine sq_callC rfl (by simp only [List.length_take, List.length_drop]; omega) fun x39 hp39 => ?_
      refine sq_r (ry_move rfl) ?_
      refine sq_r (ry_extract (v := x39.val) rfl rfl) ?_
      refine sq_r (ry_extract (v := .int .i64 (jreadE ((js.drop (d + 2)).take (((d + 2) + (de ((js.drop d).take 2))) - (d + 2))))) rfl rfl) ?_
      refine sq_r (ry_assign rfl) ?_
      refine sq_r (ry_assign rfl) ?_
      refine sq_nil ?_
      refine ex_then ?_
      refine cw_seq ?_
      refine cw_seq ?_
      refine cw_region ?_
      refine sq_r (ry_move rfl) ?_
      refine sq_r (ry_int rfl rfl rfl) ?_
      refine sq_nil ?_
      refine ex_then ?_
      refine cw_cond rfl (fun h2 => ?_) (fun h2 => ?_)
      · try simp only [Bool.and_eq_true, Bool.or_eq_true, Bool.and_eq_false_iff, Bool.or_eq_false_iff, Bool.not_eq_true', Bool.not_eq_false', decide_eq_true_eq, decide_eq_false_iff_not, Bool.not_eq_true, Bool.not_eq_false] at h2
        have hz : allJ js = (lc a, d) := by rw [hi2, allJ_bad (by rw [← part_raw]; exact h2), List.append_nil]; rfl
        refine cw_seq ?_
        refine cw_region ?_
        refine sq_r (ry_move rfl) ?_
        refine sq_r (ry_move rfl) ?_
        refine sq_r (ry_assign rfl) ?_
        refine sq_r (ry_assign rfl) ?_
        refine sq_nil ?_
        refine ex_then ?_
        refine cw_ret ?_
        refine ex_pass_ret ?_
        refine ex_block_ret ?_
        refine ex_pass_ret ?_
        refine ex_block_ret ?_
        refine ex_pass_ret ?_
        refine ex_ret (.inl rfl) (res_2 rfl (rv_tmp rfl) (rv_tmp rfl)) (fun w1 hw => ?_)
        exact ⟨a, by rw [hz], by rw [hz], Keep.mem hw⟩
      · try simp only [Bool.and_eq_true, Bool.or_eq_true, Bool.and_eq_false_iff, Bool.or_eq_false_iff, Bool.not_eq_true', Bool.not_eq_false', decide_eq_true_eq, decide_eq_false_iff_not, Bool.not_eq_true, Bool.not_eq_false] at h2
        have hre : jreadE (((js.drop d).drop 2).take (de ((js.drop d).take 2))) = 0 := by rw [← part_raw]; simpa using h2
        refine cw_skip ?_
        refine ex_then ?_
        refine cw_seq ?_
        refine cw_region ?_
        refine sq_r (ry_move rfl) ?_
        refine sq_r (ry_move rfl) ?_
        refine sq_buildSlice (enc := scells) (vals := [x39.val]) [⟨x39, (jreadV ((js.drop (d + 2)).take (((d + 2) + (de ((js.drop d).take 2))) - (d + 2))))⟩] rfl (by simp only [List.map_cons, List.map_nil, Sv.cells_val]; rfl) rfl (by decide) (by decide) fun b48 => ?_
        refine sq_appendD (s := ⟨false, b48, 0, 1, 1, none⟩) a [⟨x39, (jreadV ((js.drop (d + 2)).take (((d + 2) + (de ((js.drop d).take 2))) - (d + 2))))⟩] rfl rfl (by decide) (by simp only [List.length_cons, List.length_nil]; omega) (by simp only [List.length_cons, List.length_nil]; omega) fun x49 hx49 => ?_
        refine sq_r (ry_assign rfl) ?_
        refine sq_nil ?_
        refine ex_then ?_
        refine cw_region ?_
        refine sq_r (ry_move rfl) ?_
        refine sq_r (ry_add rfl rfl (by omega)) ?_
        refine sq_r (ry_move rfl) ?_
        refine sq_r (ry_add rfl rfl (by omega)) ?_
        refine sq_r (ry_assign rfl) ?_
        refine sq_nil ?_
        refine ex_block ?_
        exact ex_again (x := (d, a)) (d + 2 + (de ((js.drop d).take 2)), x49) ⟨by first | omega | (simp only []; omega), by rw [lc_snoc hx49, part_raw]; exact allJ_step hi2 hl1 hl2 hre, by rw [hx49, List.length_append]; simp only [List.length_cons, List.length_nil]; omega⟩ (by simp only; omega) (Sub.cons rfl (Sub.cons rfl (Sub.cons rfl (Sub.nil _)))) (fun w hw => Keep.mem hw)
  · try simp only [Bool.and_eq_true, Bool.or_eq_true, Bool.and_eq_false_iff, Bool.or_eq_false_iff, Bool.not_eq_true', Bool.not_eq_false', decide_eq_true_eq, decide_eq_false_iff_not, Bool.not_eq_true, Bool.not_eq_false] at h0
    have hz : allJ js = (lc a, d) := by rw [hi2, allJ_short (by rw [List.length_drop]; omega), List.append_nil]; rfl
    refine cw_exit ?_
    refine ex_pass_exit ?_
    refine ex_pass_exit ?_
    refine ex_block_hit ?_
    refine ex_then ?_
    refine cw_seq ?_
    refine cw_region ?_
    refine sq_r (ry_move rfl) ?_
    refine sq_r (ry_move rfl) ?_
    refine sq_r (ry_assign rfl) ?_
    refine sq_r (ry_assign rfl) ?_
    refine sq_nil ?_
    refine ex_then ?_
    refine cw_ret ?_
    refine ex_ret (.inl rfl) (res_2 rfl (rv_tmp rfl) (rv_tmp rfl)) (fun w1 hw => ?_)
    exact ⟨a, by rw [hz], by rw [hz], Keep.mem hw⟩
instance rjall_i {w0 : World} {L : List Ent} {j : Sv} {js : List UInt8} [hj : HdE w0 L benc 1 j js] : FnC Try.prog 61 w0 L [j.val] (Sl (Sl Ch)) (fun zz => .tuple #[zz.sv.val, .int .i64 (((allJ js).2) : Nat)]) (fun zz => Deep.ent zz :: L) (fun zz => lc zz = (allJ js).1) (js.length ≤ 900000) := ⟨fun hp w hw => (rjall_c w j js (hj.h w hw) hp).mono fun e w' ⟨x, h1, h2, h3⟩ => ⟨x, h1, h2, hw.call h3⟩⟩
set_option maxRecDepth 20000 in
theorem rjplay_c (w : World) (t : Sv) (ts : List Rt) (j : Sv) (js : List UInt8) (ht : Lies rcells 19 (hp w) t ts) (hj : Lies benc 1 (hp w) j js) (hpre : ts.length ≤ 1000000 ∧ js.length ≤ 900000) : Calls Try.prog 63 #[t.val, j.val] w fun e w' => ∃ zz : Sv × Bool, e = .returned (.tuple #[zz.1.val, .int .i64 (((playV ts js).2.1) : Nat), .int .i64 ((playV ts js).2.2)]) ∧ (zz.2 = true → zz.1 = t ∧ (playV ts js).1 = ts) ∧ Mem w [selE zz.2 (own rcells 19 zz.1 ((playV ts js).1))] w' := by
  have ght : Gv w t rcells 19 ts := ⟨ht⟩
  have ghj : Gv w j benc 1 js := ⟨hj⟩
  obtain ⟨hp1, hp2⟩ := hpre
  refine calls_of (args := [_, _]) Try.func63 rfl Try.ntmps63 rfl ?_
  change Cw _ _ _ _ _ [(0, t.val), (1, j.val)] []
  refine cw_seq ?_
  refine cw_region ?_
  refine sq_r (ry_assign rfl) ?_
  refine sq_r (ry_assign rfl) ?_
  refine sq_r (ry_assign rfl) ?_
  refine sq_nil ?_
  refine ex_then ?_
  refine cw_seq ?_
  refine cw_seq ?_
  refine cw_region ?_
  refine sq_r (ry_move rfl) ?_
  refine sq_y (yl_callC rfl trivial) ?_
  refine sq_r (ry_not rfl) ?_
  refine sq_nil ?_
  refine ex_then ?_
  refine cw_cond rfl (fun h0 => ?_) (fun h0 => ?_)
  · try simp only [Bool.and_eq_true, Bool.or_eq_true, Bool.and_eq_false_iff, Bool.or_eq_false_iff, Bool.not_eq_true', Bool.not_eq_false', decide_eq_true_eq, decide_eq_false_iff_not, Bool.not_eq_true, Bool.not_eq_false] at h0
    have hz : playV ts js = (ts, 0, 1) := if_neg (by rw [h0]; simp)
    refine cw_seq ?_
    refine cw_region ?_
    refine sq_r (ry_move rfl) ?_
    refine sq_r (ry_assign rfl) ?_
    refine sq_r (ry_assign rfl) ?_
    refine sq_r (ry_assign rfl) ?_
    refine sq_nil ?_
    refine ex_then ?_
    refine cw_ret ?_
    refine ex_pass_ret ?_
    refine ex_ret (.inl rfl) (res_3 rfl (rv_tmp rfl) (rv_tmp rfl) (rv_tmp rfl)) (fun w1 hw => ?_)
    exact ⟨(t, true), by rw [hz]; rfl, fun _ => ⟨rfl, by rw [hz]⟩, Mem.selT (Keep.mem hw)⟩
  · try simp only [Bool.and_eq_true, Bool.or_eq_true, Bool.and_eq_false_iff, Bool.or_eq_false_iff, Bool.not_eq_true', Bool.not_eq_false', decide_eq_true_eq, decide_eq_false_iff_not, Bool.not_eq_true, Bool.not_eq_false] at h0
    have hr : tright ts = true := h0
    refine cw_skip ?_
    refine ex_then ?_
    refine cw_seq ?_
    refine cw_region ?_
    refine sq_r (ry_move rfl) ?_
    refine sq_callC rfl (by omega) fun x18 hp18 => ?_
    have hp18 : lc x18 = (allJ js).1 := hp18
    have hx18 : x18.xs.length ≤ js.length := by rw [← lc_length, hp18]; exact allJ_many js
    refine sq_r (ry_move rfl) ?_
    refine sq_r (ry_extract (v := x18.sv.val) rfl rfl) ?_
    refine sq_r (ry_extract (v := .int .i64 (((allJ js).2) : Nat)) rfl rfl) ?_
    refine sq_r (ry_assign rfl) ?_
    refine sq_r (ry_assign rfl) ?_
    refine sq_nil ?_
    refine ex_then ?_
    refine cw_seq ?_
    refine cw_seq ?_
    refine cw_region ?_
    refine sq_r (ry_assign rfl) ?_
    refine sq_nil ?_
    refine ex_then ?_
    refine cw_block ?_
    refine cw_loop (X := Nat × Sv × Bool × List Rt) (fun zz => [(9, .int .i64 (zz.1 : Nat)), (0, zz.2.1.val), (7, x18.sv.val)]) (fun zz => [selE zz.2.2.1 (own rcells 19 zz.2.1 zz.2.2.2), Deep.ent x18]) (fun zz => zz.1 ≤ x18.xs.length ∧ playF ts ((lc x18).take zz.1) = (zz.2.2.2, zz.1, 0) ∧ tright zz.2.2.2 = true ∧ (zz.2.2.1 = true → zz.2.1 = t ∧ zz.2.2.2 = ts)) (fun zz => x18.xs.length - zz.1) (0, t, true, ts) ⟨Nat.zero_le _, by rw [List.take_zero]; rfl, hr, fun _ => ⟨rfl, rfl⟩⟩ (Sub.cons rfl (Sub.cons rfl (Sub.cons rfl (Sub.nil _)))) (fun w hw => Mem.selT (Keep.mem hw)) ?_
    rintro ⟨i, o, g, q⟩ ⟨hi1, hi2, hi3, hi4⟩
    dsimp only
    simp only at hi1 hi2 hi3 hi4
    have hq := tr_len hi3
    have sg : SelG g o q t ts := ⟨hi4⟩
    refine cw_seq ?_
    refine cw_seq ?_
    refine cw_region ?_
    refine sq_r (ry_move rfl) ?_
    refine sq_r (ry_move rfl) ?_
    refine sq_r (ry_lenH rfl) ?_
    refine sq_r (ry_int rfl rfl rfl) ?_
    refine sq_nil ?_
    refine ex_then ?_
    refine cw_cond rfl (fun h1 => ?_) (fun h1 => ?_)
    · try simp only [Bool.and_eq_true, Bool.or_eq_true, Bool.and_eq_false_iff, Bool.or_eq_false_iff, Bool.not_eq_true', Bool.not_eq_false', decide_eq_true_eq, decide_eq_false_iff_not, Bool.not_eq_true, Bool.not_eq_false] at h1
      refine cw_skip ?_
      refine ex_then ?_
      refine cw_seq ?_
      refine cw_block ?_
      refine cw_seq ?_
      refine cw_region ?_
      refine sq_r (ry_move rfl) ?_
      refine sq_r (ry_move rfl) ?_
      refine sq_r (ry_move rfl) ?_
      obtain ⟨z, hz0⟩ := get_some (xs := x18.xs) (i := i) (by omega)
      refine sq_r (ry_idxH rfl rfl i rfl (by omega)) ?_
      refine sq_r (ry_elemcH (j := 0) rfl i hz0 rfl (by decide)) ?_
      have mb32 : Mb z _ := ⟨List.mem_of_getElem? hz0⟩
      refine sq_callC rfl (by assumption) fun x33 hp33 => ?_
      refine sq_r (ry_move rfl) ?_
      refine sq_r (ry_extract (v := x33.1.val) rfl rfl) ?_
      refine sq_r (ry_extract (v := .int .i64 (appE q z.xs)) rfl rfl) ?_
      refine sq_r (ry_assign rfl) ?_
      refine sq_r (ry_assign rfl) ?_
      refine sq_nil ?_
      refine ex_then ?_
      refine cw_seq ?_
      refine cw_seq ?_
      refine cw_region ?_
      refine sq_r (ry_move rfl) ?_
      refine sq_r (ry_int rfl rfl rfl) ?_
      refine sq_nil ?_
      refine ex_then ?_
      refine cw_cond rfl (fun h2 => ?_) (fun h2 => ?_)
      · try simp only [Bool.and_eq_true, Bool.or_eq_true, Bool.and_eq_false_iff, Bool.or_eq_false_iff, Bool.not_eq_true', Bool.not_eq_false', decide_eq_true_eq, decide_eq_false_iff_not, Bool.not_eq_true, Bool.not_eq_false] at h2
        have hz : playV ts js = (q, i, appE q z.xs) := by rw [playV, if_pos hr, ← hp18, playF_end (g := z.xs) hi2 (by simp [lc, hz0]) h2]
        refine cw_seq ?_
        refine cw_region ?_
        refine sq_r (ry_move rfl) ?_
        refine sq_r (ry_move rfl) ?_
        refine sq_r (ry_move rfl) ?_
        refine sq_r (ry_assign rfl) ?_
        refine sq_r (ry_assign rfl) ?_
        refine sq_r (ry_assign rfl) ?_
        refine sq_nil ?_
        refine ex_then ?_
        refine cw_ret ?_
        refine ex_pass_ret ?_
        refine ex_block_ret ?_
        refine ex_pass_ret ?_
        refine ex_pass_ret ?_
        refine ex_block_ret ?_
        refine ex_pass_ret ?_
        refine ex_ret (.inl rfl) (res_3 rfl (rv_tmp rfl) (rv_tmp rfl) (rv_tmp rfl)) (fun w1 hw => ?_)
        exact ⟨(o, g), by rw [hz], by rw [hz]; exact hi4, by rw [hz]; exact Keep.mem hw⟩
      · try simp only [Bool.and_eq_true, Bool.or_eq_true, Bool.and_eq_false_iff, Bool.or_eq_false_iff, Bool.not_eq_true', Bool.not_eq_false', decide_eq_true_eq, decide_eq_false_iff_not, Bool.not_eq_true, Bool.not_eq_false] at h2
        refine cw_skip ?_
        refine ex_then ?_
        refine cw_region ?_
        refine sq_r (ry_move rfl) ?_
        refine sq_r (ry_assign rfl) ?_
        refine sq_nil ?_
        refine ex_block ?_
        refine ex_then ?_
        refine cw_region ?_
        refine sq_r (ry_move rfl) ?_
        refine sq_r (ry_add rfl rfl (by omega)) ?_
        refine sq_r (ry_assign rfl) ?_
        refine sq_nil ?_
        exact ex_again (x := (i, o, g, q)) (i + 1, x33.1, x33.2 && g, appL q z.xs) ⟨by first | omega | (simp only []; omega), by rw [playF_step (g := z.xs) hi2 (by simp [lc, hz0]), if_pos h2], appL_right hi3 _, fun h => by rw [Bool.and_eq_true] at h; obtain ⟨e1, e2⟩ := hp33 h.1; obtain ⟨e3, e4⟩ := hi4 h.2; exact ⟨e1.trans e3, e2.trans e4⟩⟩ (by simp only; omega) (Sub.cons rfl (Sub.cons rfl (Sub.cons rfl (Sub.nil _)))) (fun w hw => Mem.selJoin hw hp33)
    · try simp only [Bool.and_eq_true, Bool.or_eq_true, Bool.and_eq_false_iff, Bool.or_eq_false_iff, Bool.not_eq_true', Bool.not_eq_false', decide_eq_true_eq, decide_eq_false_iff_not, Bool.not_eq_true, Bool.not_eq_false] at h1
      obtain rfl : i = x18.xs.length := by omega
      rw [List.take_of_length_le (by rw [lc, List.length_map]; exact Nat.le_refl _)] at hi2
      have hz : playV ts js = (q, x18.xs.length, 0) := by rw [playV, if_pos hr, ← hp18, hi2]
      refine cw_exit ?_
      refine ex_pass_exit ?_
      refine ex_pass_exit ?_
      refine ex_block_hit ?_
      refine ex_then ?_
      refine cw_seq ?_
      refine cw_region ?_
      refine sq_r (ry_move rfl) ?_
      refine sq_r (ry_move rfl) ?_
      refine sq_r (ry_lenH rfl) ?_
      refine sq_r (ry_assign rfl) ?_
      refine sq_r (ry_assign rfl) ?_
      refine sq_r (ry_assign rfl) ?_
      refine sq_nil ?_
      refine ex_then ?_
      refine cw_ret ?_
      refine ex_ret (.inl rfl) (res_3 rfl (rv_tmp rfl) (rv_tmp rfl) (rv_tmp rfl)) (fun w1 hw => ?_)
      exact ⟨(o, g), by rw [hz], by rw [hz]; exact hi4, by rw [hz]; exact Keep.mem hw⟩
instance rjplay_i {w0 : World} {L : List Ent} {t : Sv} {ts : List Rt} {j : Sv} {js : List UInt8} [ht : HdE w0 L rcells 19 t ts] [hj : HdE w0 L benc 1 j js] : FnC Try.prog 63 w0 L [t.val, j.val] (Sv × Bool) (fun zz => .tuple #[zz.1.val, .int .i64 (((playV ts js).2.1) : Nat), .int .i64 ((playV ts js).2.2)]) (fun zz => selE zz.2 (own rcells 19 zz.1 ((playV ts js).1)) :: L) (fun zz => zz.2 = true → zz.1 = t ∧ (playV ts js).1 = ts) (ts.length ≤ 1000000 ∧ js.length ≤ 900000) := ⟨fun hp w hw => (rjplay_c w t ts j js (ht.h w hw) (hj.h w hw) hp).mono fun e w' ⟨x, h1, h2, h3⟩ => ⟨x, h1, h2, hw.call h3⟩⟩

end Go.Proofs.Ytajhlgdapiihgaa

/- The laws of layer 19 are awake: walked. -/
set_option linter.unusedSimpArgs false
set_option linter.unusedVariables false
namespace Go.Proofs.Ytajhlgdapiihgaa
open Go.Eng Go.Kb

def jk0 : Key := BitVec.ofNat 128 (10 * 2 ^ 120)
def aj1 : Ch := ⟨⟨⟨32, 8, jk0⟩, 7⟩, false⟩
theorem aj_may : jputE [aj1] = 0 := by decide +kernel
theorem aj_may' : ∀ l ∈ [[aj1], [aj1]], jputE l = 0 := fun l hl => by simp at hl; rw [hl]; exact aj_may
theorem aj_two : jaddV (jaddV [] [aj1]) [aj1] = framesJ [[aj1], [aj1]] := by rw [jadd_frame aj_may, jadd_frame aj_may]; simp [framesJ]
theorem aj_len : (frame [aj1]).length = 29 := by
  rw [frame_length, jputV, if_pos aj_may, sealed, List.length_append, be_length, jbody_length _ _ (Nat.le_refl _)]; rfl
theorem aj_len2 : (framesJ [[aj1], [aj1]]).length = 58 := by rw [framesJ_cons, framesJ_cons, List.length_append, List.length_append, aj_len]; rfl
theorem aj_cut : allJ (((framesJ [[aj1], [aj1]]).drop 0).take (57 - 0)) = ([[aj1]], 29) := by
  have := cut_law (p := [[aj1], [aj1]]) aj_may' (a := 57) (wh := 1) (by decide) (by show (framesJ [[aj1]]).length ≤ 57; rw [framesJ_cons, List.length_append, aj_len]; decide) (fun _ => by show 57 < (framesJ [[aj1], [aj1]]).length; rw [aj_len2]; decide)
  rw [List.drop_zero, Nat.sub_zero, this]
  show ([[aj1]], (framesJ [[aj1]]).length) = _
  rw [framesJ_cons, List.length_append, aj_len]; rfl
theorem aj_play : (playV [] (framesJ [[aj1], [aj1]])).1.length = 1 ∧ (playV [] (framesJ [[aj1], [aj1]])).2.1 = 2 ∧ (playV [] (framesJ [[aj1], [aj1]])).2.2 = 0 := by
  rw [playV, if_pos (by decide +kernel), all_frames aj_may']
  decide +kernel
set_option maxRecDepth 20000 in
theorem aw19_c (w : World)   : Calls Try.prog 52 #[] w fun e w' => e = .returned (.bool true) ∧ Mem w [] w' := by
  obtain ⟨k1, k2, k3⟩ := aj_play
  obtain ⟨k4, k5⟩ := jread_jput aj_may
  have k6 := aj_len2
  have k7 := aj_cut
  rw [← aj_two] at k1 k2 k3 k6 k7
  have k9 := congrArg Prod.snd k7
  simp only [List.drop_zero, Nat.sub_zero] at k9
  have kl : (jaddV [] [aj1]).length ≤ 5000 := by rw [jadd_frame aj_may, List.nil_append, aj_len]; decide
  refine calls_of (args := []) Try.func52 rfl Try.ntmps52 rfl ?_
  change Cw _ _ _ _ _ [] []
  refine cw_seq ?_
  refine cw_region ?_
  refine sq_r (ry_assign rfl) ?_
  refine sq_nil ?_
  refine ex_then ?_
  refine cw_seq ?_
  refine cw_region ?_
  refine sq_r (ry_build (v := .agg (kcells jk0)) rfl (fun w => by kernel_rfl)) ?_
  refine sq_r (ry_build (v := .agg (pcells aj1.r.p)) rfl (fun w => by kernel_rfl)) ?_
  refine sq_r (ry_build (v := .agg (rcells aj1.r)) rfl (fun w => by kernel_rfl)) ?_
  refine sq_r (ry_build (v := .agg (chcells aj1)) rfl (fun w => by kernel_rfl)) ?_
  refine sq_buildSlice (enc := chcells) (vals := [_]) [aj1] rfl rfl rfl (by decide) (by decide) fun b18 => ?_
  refine sq_r (ry_assign rfl) ?_
  refine sq_nil ?_
  refine ex_then ?_
  refine cw_seq ?_
  refine cw_region ?_
  refine sq_r (ry_move rfl) ?_
  refine sq_callC (vs := [Sv.none.val, _]) rfl (by simp) fun x21 hp21 => ?_
  refine sq_r (ry_move rfl) ?_
  refine sq_r (ry_extract (v := x21.val) rfl rfl) ?_
  refine sq_r (ry_extract (v := .int .i64 (jputE [aj1])) rfl rfl) ?_
  refine sq_r (ry_assign rfl) ?_
  refine sq_r (ry_assign rfl) ?_
  refine sq_nil ?_
  refine ex_then ?_
  refine cw_seq ?_
  refine cw_region ?_
  refine sq_r (ry_move rfl) ?_
  refine sq_r (ry_move rfl) ?_
  refine sq_callC rfl (by omega) fun x27 hp27 => ?_
  refine sq_r (ry_move rfl) ?_
  refine sq_r (ry_extract (v := x27.val) rfl rfl) ?_
  refine sq_r (ry_extract (v := .int .i64 (jputE [aj1])) rfl rfl) ?_
  refine sq_r (ry_assign rfl) ?_
  refine sq_r (ry_assign rfl) ?_
  refine sq_nil ?_
  refine ex_then ?_
  refine cw_seq ?_
  refine cw_seq ?_
  refine cw_region ?_
  refine sq_r (ry_move rfl) ?_
  refine sq_r (ry_int rfl rfl rfl) ?_
  refine sq_r (ry_move rfl) ?_
  refine sq_gf rfl rfl rfl (fun hg => (Ry.yl (ry_move rfl))) ?_
  refine sq_gf rfl rfl rfl (fun hg => (Ry.yl (ry_int (ev_c hg rfl) rfl rfl))) ?_
  refine sq_r (ry_or rfl rfl rfl) ?_
  refine sq_r (ry_move rfl) ?_
  refine sq_gf rfl rfl rfl (fun hg => (Ry.yl (ry_move rfl))) ?_
  refine sq_gf rfl rfl rfl (fun hg => (Ry.yl (ry_lenH (ev_c hg rfl)))) ?_
  refine sq_gf rfl rfl rfl (fun hg => (Ry.yl (ry_int (ev_c hg rfl) rfl rfl))) ?_
  refine sq_r (ry_or rfl rfl rfl) ?_
  refine sq_nil ?_
  refine ex_then ?_
  refine cw_cond rfl (fun h0 => ?_) (fun h0 => ?_)
  · exfalso
    simp [aj_may, k6] at h0
  · try simp only [Bool.and_eq_true, Bool.or_eq_true, Bool.and_eq_false_iff, Bool.or_eq_false_iff, Bool.not_eq_true', Bool.not_eq_false', decide_eq_true_eq, decide_eq_false_iff_not, Bool.not_eq_true, Bool.not_eq_false] at h0
    refine cw_skip ?_
    refine ex_then ?_
    refine cw_seq ?_
    refine cw_region ?_
    refine sq_r (ry_move rfl) ?_
    have rg43 : Rg 0 57 (jaddV (jaddV [] [aj1]) [aj1]).length := ⟨by omega⟩
    refine sq_r (ry_subH_hi rfl rfl 57 rfl rg43.h.2) ?_
    refine sq_callC rfl (by simp only [List.length_take]; omega) fun x44 hp44 => ?_
    rw [k7] at hp44
    have k8 : x44.xs.length = 1 := by rw [← lc_length, hp44]; rfl
    refine sq_r (ry_move rfl) ?_
    refine sq_r (ry_extract (v := x44.sv.val) rfl rfl) ?_
    refine sq_r (ry_extract (v := .int .i64 (((allJ (((jaddV (jaddV [] [aj1]) [aj1]).drop 0).take (57 - 0))).2) : Nat)) rfl rfl) ?_
    refine sq_r (ry_assign rfl) ?_
    refine sq_r (ry_assign rfl) ?_
    refine sq_nil ?_
    refine ex_then ?_
    refine cw_seq ?_
    refine cw_region ?_
    refine sq_r (ry_move rfl) ?_
    refine sq_callC (vs := [Sv.none.val, _]) rfl ⟨by simp, by omega⟩ fun x49 hp49 => ?_
    refine sq_r (ry_move rfl) ?_
    refine sq_r (ry_extract (v := x49.val) rfl rfl) ?_
    refine sq_r (ry_extract (v := .int .i64 (((playV [] (jaddV (jaddV [] [aj1]) [aj1])).2.1) : Nat)) rfl rfl) ?_
    refine sq_r (ry_extract (v := .int .i64 ((playV [] (jaddV (jaddV [] [aj1]) [aj1])).2.2)) rfl rfl) ?_
    refine sq_r (ry_assign rfl) ?_
    refine sq_r (ry_assign rfl) ?_
    refine sq_r (ry_assign rfl) ?_
    refine sq_nil ?_
    refine ex_then ?_
    refine cw_seq ?_
    refine cw_region ?_
    refine sq_r (ry_move rfl) ?_
    refine sq_callC rfl trivial fun x55 hp55 => ?_
    refine sq_r (ry_move rfl) ?_
    refine sq_r (ry_extract (v := x55.val) rfl rfl) ?_
    refine sq_r (ry_extract (v := .int .i64 (jputE [aj1])) rfl rfl) ?_
    refine sq_r (ry_assign rfl) ?_
    refine sq_r (ry_assign rfl) ?_
    refine sq_nil ?_
    refine ex_then ?_
    refine cw_seq ?_
    refine cw_region ?_
    refine sq_r (ry_move rfl) ?_
    refine sq_callC rfl (by have := jputV_length (l := [aj1]); omega) fun x60 hp60 => ?_
    refine sq_r (ry_move rfl) ?_
    refine sq_r (ry_extract (v := x60.val) rfl rfl) ?_
    refine sq_r (ry_extract (v := .int .i64 (jreadE (jputV [aj1]))) rfl rfl) ?_
    refine sq_r (ry_assign rfl) ?_
    refine sq_r (ry_assign rfl) ?_
    refine sq_nil ?_
    refine ex_then ?_
    refine cw_seq ?_
    refine cw_region ?_
    refine sq_r (ry_move rfl) ?_
    refine sq_r (ry_lenH rfl) ?_
    refine sq_r (ry_int rfl rfl rfl) ?_
    refine sq_r (ry_move rfl) ?_
    refine sq_ty rfl rfl rfl (by simp [k1, k2, k3, k4, k5, k6, k9, k8, aj_may]) (Ry.yl (ry_move rfl)) ?_
    refine sq_ty rfl rfl rfl (by simp [k1, k2, k3, k4, k5, k6, k9, k8, aj_may]) (Ry.yl (ry_int rfl rfl rfl)) ?_
    refine sq_r (ry_pickT rfl (by simp [k1, k2, k3, k4, k5, k6, k9, k8, aj_may]) rfl rfl) ?_
    refine sq_r (ry_move rfl) ?_
    refine sq_ty rfl rfl rfl (by simp [k1, k2, k3, k4, k5, k6, k9, k8, aj_may]) (Ry.yl (ry_move rfl)) ?_
    refine sq_ty rfl rfl rfl (by simp [k1, k2, k3, k4, k5, k6, k9, k8, aj_may]) (Ry.yl (ry_lenH rfl)) ?_
    refine sq_ty rfl rfl rfl (by simp [k1, k2, k3, k4, k5, k6, k9, k8, aj_may]) (Ry.yl (ry_int rfl rfl rfl)) ?_
    refine sq_r (ry_pickT rfl (by simp [k1, k2, k3, k4, k5, k6, k9, k8, aj_may]) rfl rfl) ?_
    refine sq_r (ry_move rfl) ?_
    refine sq_ty rfl rfl rfl (by simp [k1, k2, k3, k4, k5, k6, k9, k8, aj_may]) (Ry.yl (ry_move rfl)) ?_
    refine sq_ty rfl rfl rfl (by simp [k1, k2, k3, k4, k5, k6, k9, k8, aj_may]) (Ry.yl (ry_int rfl rfl rfl)) ?_
    refine sq_r (ry_pickT rfl (by simp [k1, k2, k3, k4, k5, k6, k9, k8, aj_may]) rfl rfl) ?_
    refine sq_r (ry_move rfl) ?_
    refine sq_ty rfl rfl rfl (by simp [k1, k2, k3, k4, k5, k6, k9, k8, aj_may]) (Ry.yl (ry_move rfl)) ?_
    refine sq_ty rfl rfl rfl (by simp [k1, k2, k3, k4, k5, k6, k9, k8, aj_may]) (Ry.yl (ry_int rfl rfl rfl)) ?_
    refine sq_r (ry_pickT rfl (by simp [k1, k2, k3, k4, k5, k6, k9, k8, aj_may]) rfl rfl) ?_
    refine sq_r (ry_move rfl) ?_
    refine sq_ty rfl rfl rfl (by simp [k1, k2, k3, k4, k5, k6, k9, k8, aj_may]) (Ry.yl (ry_move rfl)) ?_
    refine sq_ty rfl rfl rfl (by simp [k1, k2, k3, k4, k5, k6, k9, k8, aj_may]) (Ry.yl (ry_int rfl rfl rfl)) ?_
    refine sq_r (ry_pickT rfl (by simp [k1, k2, k3, k4, k5, k6, k9, k8, aj_may]) rfl rfl) ?_
    refine sq_r (ry_move rfl) ?_
    refine sq_ty rfl rfl rfl (by simp [k1, k2, k3, k4, k5, k6, k9, k8, aj_may]) (Ry.yl (ry_move rfl)) ?_
    refine sq_ty rfl rfl rfl (by simp [k1, k2, k3, k4, k5, k6, k9, k8, aj_may]) (Ry.yl (ry_int rfl rfl rfl)) ?_
    refine sq_r (ry_pickT rfl (by simp [k1, k2, k3, k4, k5, k6, k9, k8, aj_may]) rfl rfl) ?_
    refine sq_r (ry_move rfl) ?_
    refine sq_ty rfl rfl rfl (by simp [k1, k2, k3, k4, k5, k6, k9, k8, aj_may]) (Ry.yl (ry_move rfl)) ?_
    refine sq_ty rfl rfl rfl (by simp [k1, k2, k3, k4, k5, k6, k9, k8, aj_may]) (Ry.yl (ry_move rfl)) ?_
    refine sq_ty rfl rfl rfl (by simp [k1, k2, k3, k4, k5, k6, k9, k8, aj_may]) (yl_callC rfl trivial) ?_
    refine sq_r (ry_pickT rfl (by simp [k1, k2, k3, k4, k5, k6, k9, k8, aj_may]) rfl rfl) ?_
    refine sq_r (ry_assign rfl) ?_
    refine sq_nil ?_
    refine ex_then ?_
    refine cw_ret ?_
    refine ex_ret (.inl rfl) (res_1 rfl (rv_tmp rfl)) (fun w1 hw => ?_)
    exact ⟨congrArg (fun b => Ending.returned (Value.bool b)) ((by simp [k5])), Keep.mem hw⟩
instance aw19_i {w0 : World} {L : List Ent}   : FnQ Try.prog 52 w0 L [] (.bool true) (True) := ⟨fun hp w hw => aw19_c w  ⟩
set_option maxRecDepth 20000 in
theorem same19_c (w : World) (a : Sl (Sl Ch)) (b : Sl (Sl Ch)) (ha : Deep.good (hp w) a) (hb : Deep.good (hp w) b) : Calls Try.prog 64 #[a.sv.val, b.sv.val] w fun e w' => e = .returned (.bool (decide (lc a = lc b))) ∧ Mem w [] w' := by
  have gha : GvD w a := ⟨ha⟩
  have ghb : GvD w b := ⟨hb⟩
  have hb1 := ha.1.bd
  refine calls_of (args := [_, _]) Try.func64 rfl Try.ntmps64 rfl ?_
  change Cw _ _ _ _ _ [(0, a.sv.val), (1, b.sv.val)] []
  refine cw_seq ?_
  refine cw_region ?_
  refine sq_r (ry_assign rfl) ?_
  refine sq_nil ?_
  refine ex_then ?_
  refine cw_seq ?_
  refine cw_seq ?_
  refine cw_region ?_
  refine sq_r (ry_move rfl) ?_
  refine sq_r (ry_lenH rfl) ?_
  refine sq_r (ry_move rfl) ?_
  refine sq_r (ry_lenH rfl) ?_
  refine sq_r (ry_int rfl rfl rfl) ?_
  refine sq_nil ?_
  refine ex_then ?_
  refine cw_cond rfl (fun h0 => ?_) (fun h0 => ?_)
  · try simp only [Bool.and_eq_true, Bool.or_eq_true, Bool.and_eq_false_iff, Bool.or_eq_false_iff, Bool.not_eq_true', Bool.not_eq_false', decide_eq_true_eq, decide_eq_false_iff_not, Bool.not_eq_true, Bool.not_eq_false] at h0
    refine cw_seq ?_
    refine cw_region ?_
    refine sq_r (ry_assign rfl) ?_
    refine sq_nil ?_
    refine ex_then ?_
    refine cw_ret ?_
    refine ex_pass_ret ?_
    refine ex_ret (.inl rfl) (res_1 rfl (rv_tmp rfl)) (fun w1 hw => ?_)
    exact ⟨congrArg (fun b => Ending.returned (Value.bool b)) ((decide_eq_false (fun e => h0 (by have := congrArg List.length e; rw [lc_length, lc_length] at this; omega))).symm), Keep.mem hw⟩
  · try simp only [Bool.and_eq_true, Bool.or_eq_true, Bool.and_eq_false_iff, Bool.or_eq_false_iff, Bool.not_eq_true', Bool.not_eq_false', decide_eq_true_eq, decide_eq_false_iff_not, Bool.not_eq_true, Bool.not_eq_false] at h0
    refine cw_skip ?_
    refine ex_then ?_
    refine cw_seq ?_
    refine cw_seq ?_
    refine cw_region ?_
    refine sq_r (ry_assign rfl) ?_
    refine sq_nil ?_
    refine ex_then ?_
    refine cw_block ?_
    refine cw_loop (X := Nat) (fun zz => [(5, .int .i64 (zz : Nat)), (0, a.sv.val), (1, b.sv.val)]) (fun zz => []) (fun zz => zz ≤ a.xs.length ∧ ∀ j, j < zz → (lc a)[j]? = (lc b)[j]?) (fun zz => a.xs.length - zz) 0 ⟨Nat.zero_le _, fun j h => by first | omega | (simp only []; omega)⟩ (Sub.cons rfl (Sub.cons rfl (Sub.cons rfl (Sub.nil _)))) (fun w hw => Keep.mem hw) ?_
    rintro i ⟨hi1, hi2⟩
    refine cw_seq ?_
    refine cw_seq ?_
    refine cw_region ?_
    refine sq_r (ry_move rfl) ?_
    refine sq_r (ry_move rfl) ?_
    refine sq_r (ry_lenH rfl) ?_
    refine sq_r (ry_int rfl rfl rfl) ?_
    refine sq_nil ?_
    refine ex_then ?_
    refine cw_cond rfl (fun h1 => ?_) (fun h1 => ?_)
    · try simp only [Bool.and_eq_true, Bool.or_eq_true, Bool.and_eq_false_iff, Bool.or_eq_false_iff, Bool.not_eq_true', Bool.not_eq_false', decide_eq_true_eq, decide_eq_false_iff_not, Bool.not_eq_true, Bool.not_eq_false] at h1
      obtain ⟨u, hu⟩ := get_some (xs := a.xs) (i := i) (by omega)
      obtain ⟨v, hv⟩ := get_some (xs := b.xs) (i := i) (by omega)
      have mbu : Mb u _ := ⟨List.mem_of_getElem? hu⟩
      have mbv : Mb v _ := ⟨List.mem_of_getElem? hv⟩
      have eu : (lc a)[i]? = some u.xs := by simp [lc, hu]
      have ev : (lc b)[i]? = some v.xs := by simp [lc, hv]
      refine cw_skip ?_
      refine ex_then ?_
      refine cw_seq ?_
      refine cw_block ?_
      refine cw_seq ?_
      refine cw_quiet (by kernel_rfl) (by kernel_rfl) ?_
      refine qt_r (ry_move rfl) ?_
      refine qt_r (ry_move rfl) ?_
      refine qt_r (ry_idxH rfl rfl i rfl (by omega)) ?_
      refine qt_r (ry_elemcH (j := 0) rfl i hu rfl (by decide)) ?_
      have mb20 : Mb u _ := ⟨List.mem_of_getElem? hu⟩
      refine qt_r (ry_move rfl) ?_
      refine qt_r (ry_move rfl) ?_
      refine qt_r (ry_idxH rfl rfl i rfl (by omega)) ?_
      refine qt_r (ry_elemcH (j := 0) rfl i hv rfl (by decide)) ?_
      have mb24 : Mb v _ := ⟨List.mem_of_getElem? hv⟩
      refine qt_y (yl_callC rfl trivial) ?_
      refine qt_r (ry_not rfl) ?_
      refine qt_nil ?_
      refine ex_then ?_
      refine cw_cond rfl (fun h2 => ?_) (fun h2 => ?_)
      · try simp only [Bool.and_eq_true, Bool.or_eq_true, Bool.and_eq_false_iff, Bool.or_eq_false_iff, Bool.not_eq_true', Bool.not_eq_false', decide_eq_true_eq, decide_eq_false_iff_not, Bool.not_eq_true, Bool.not_eq_false] at h2
        refine cw_seq ?_
        refine cw_region ?_
        refine sq_r (ry_assign rfl) ?_
        refine sq_nil ?_
        refine ex_then ?_
        refine cw_ret ?_
        refine ex_block_ret ?_
        refine ex_pass_ret ?_
        refine ex_pass_ret ?_
        refine ex_block_ret ?_
        refine ex_pass_ret ?_
        refine ex_ret (.inl rfl) (res_1 rfl (rv_tmp rfl)) (fun w1 hw => ?_)
        exact ⟨congrArg (fun b => Ending.returned (Value.bool b)) ((decide_eq_false (list_no eu ev h2)).symm), Keep.mem hw⟩
      · try simp only [Bool.and_eq_true, Bool.or_eq_true, Bool.and_eq_false_iff, Bool.or_eq_false_iff, Bool.not_eq_true', Bool.not_eq_false', decide_eq_true_eq, decide_eq_false_iff_not, Bool.not_eq_true, Bool.not_eq_false] at h2
        refine cw_skip ?_
        refine ex_block ?_
        refine ex_then ?_
        refine cw_region ?_
        refine sq_r (ry_move rfl) ?_
        refine sq_r (ry_add rfl rfl (by omega)) ?_
        refine sq_r (ry_assign rfl) ?_
        refine sq_nil ?_
        exact ex_again (x := (i)) (i + 1) ⟨by first | omega | (simp only []; omega), fun j hj => if e : j = i then (by subst e; rw [eu, ev, h2]) else hi2 j (by first | omega | (simp only []; omega))⟩ (by first | omega | (simp only []; omega)) (Sub.cons rfl (Sub.cons rfl (Sub.cons rfl (Sub.nil _)))) (fun w hw => Keep.mem hw)
    · try simp only [Bool.and_eq_true, Bool.or_eq_true, Bool.and_eq_false_iff, Bool.or_eq_false_iff, Bool.not_eq_true', Bool.not_eq_false', decide_eq_true_eq, decide_eq_false_iff_not, Bool.not_eq_true, Bool.not_eq_false] at h1
      refine cw_exit ?_
      refine ex_pass_exit ?_
      refine ex_pass_exit ?_
      refine ex_block_hit ?_
      refine ex_then ?_
      refine cw_seq ?_
      refine cw_region ?_
      refine sq_r (ry_assign rfl) ?_
      refine sq_nil ?_
      refine ex_then ?_
      refine cw_ret ?_
      refine ex_ret (.inl rfl) (res_1 rfl (rv_tmp rfl)) (fun w1 hw => ?_)
      exact ⟨congrArg (fun b => Ending.returned (Value.bool b)) ((decide_eq_true (list_all (by rw [lc_length, lc_length]; omega) (fun j hj => hi2 j (by rw [lc_length] at hj; omega)))).symm), Keep.mem hw⟩
instance same19_i {w0 : World} {L : List Ent} {a : Sl (Sl Ch)} {b : Sl (Sl Ch)} [ha : HdD w0 L a] [hb : HdD w0 L b] : FnQ Try.prog 64 w0 L [a.sv.val, b.sv.val] (.bool (decide (lc a = lc b))) (True) := ⟨fun hp w hw => same19_c w a b (ha.h w hw) (hb.h w hw)⟩

end Go.Proofs.Ytajhlgdapiihgaa

