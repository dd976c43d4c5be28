/- The node behind one: walked. -/
import Derived.Test.YtembaconocgmlaaT3a
set_option linter.unusedSimpArgs false
set_option linter.unusedVariables false
namespace Go.Proofs.Ytembaconocgmlaa
open Go.Eng Go.Kb
set_option maxRecDepth 20000 in
theorem tnext_c (w0 w : World) (L : List Ent) (B : Nat) (T : TypeId) (bits : Int) (s : Sv) (ns : List Nd) (node : Nat) (four : Int) (hw : Mem w0 (blk B (tcells ⟨bits, ⟨s, []⟩⟩) T :: own ncells 48 s ns :: L) w) (hpre : node < ns.length ∧ 0 ≤ four ∧ four < 16 ∧ ns.length ≤ 512) : Calls Try.prog 90 #[.pointer (some ⟨B, 0, none⟩), .int .i64 (node : Nat), .int .i64 four] w fun e w' => ∃ zz : Sv, e = .returned (.tuple #[.int .i64 (nextN ns node four.toNat), .bool (nextO ns node four.toNat)]) ∧ (True) ∧ Mem w0 (blk B (tcells ⟨bits, ⟨zz, []⟩⟩) T :: own ncells 48 zz (nextL ns node four.toNat) :: L) w' := by
  obtain ⟨hp1, hp2, hp3, hp4⟩ := hpre
  refine calls_in (args := [_, _, _]) Try.func90 rfl Try.ntmps90 rfl hw ?_
  change Cw _ _ _ _ _ [(0, .pointer (some ⟨B, 0, none⟩)), (1, .int .i64 (node : Nat)), (2, .int .i64 four)] (blk B (tcells ⟨bits, ⟨s, []⟩⟩) T :: own ncells 48 s ns :: L)
  refine cw_seq ?_
  refine cw_region ?_
  refine sq_r (ry_assign rfl) ?_
  refine sq_r (ry_assign rfl) ?_
  refine sq_nil ?_
  refine ex_then ?_
  refine cw_seq ?_
  refine cw_seq ?_
  refine cw_region ?_
  refine sq_r (ry_move rfl) ?_
  refine sq_r (ry_nilp rfl) ?_
  refine sq_r (ry_field (o' := 0) rfl rfl) ?_
  refine sq_r (ry_field (o' := 1) rfl rfl) ?_
  refine sq_r (ry_cellc rfl) ?_
  refine sq_r (ry_move rfl) ?_
  refine sq_r (ry_move rfl) ?_
  obtain ⟨n, hn⟩ := get_some (xs := ns) (i := node) (by omega)
  refine sq_r (ry_idxH rfl rfl node rfl (by omega)) ?_
  have en : ns.getD node Nd.zero = n := by simp [List.getD, hn]
  refine sq_r (ry_field rfl rfl) ?_
  refine sq_r (ry_idxA rfl rfl (by omega) (by omega)) ?_
  refine sq_r (ry_nx rfl node hn ((four).toNat) (by omega) (by simp only [Nat.add_eq, Int.toNat_natCast, Nat.mul_one, Nat.zero_add, Nat.add_zero] <;> omega)) ?_
  refine sq_r (ry_assign rfl) ?_
  refine sq_nil ?_
  refine ex_then ?_
  refine cw_seq ?_
  refine cw_region ?_
  refine sq_r (ry_move rfl) ?_
  refine sq_r (ry_int rfl rfl rfl) ?_
  refine sq_nil ?_
  refine ex_then ?_
  refine cw_cond rfl (fun h0 => ?_) (fun h0 => ?_)
  · try simp only [Bool.and_eq_true, Bool.or_eq_true, Bool.and_eq_false_iff, Bool.or_eq_false_iff, Bool.not_eq_true', Bool.not_eq_false', decide_eq_true_eq, decide_eq_false_iff_not, Bool.not_eq_true, Bool.not_eq_false] at h0
    refine cw_seq ?_
    refine cw_region ?_
    refine sq_r (ry_move rfl) ?_
    refine sq_r (ry_assign rfl) ?_
    refine sq_r (ry_assign rfl) ?_
    refine sq_nil ?_
    refine ex_then ?_
    refine cw_ret ?_
    refine ex_pass_ret ?_
    refine ex_ret (.inl rfl) (res_2 rfl (rv_tmp rfl) (rv_tmp rfl)) (fun w1 hw => ?_)
    exact ⟨s, by rw [nextN, nextO, en, if_pos h0, decide_eq_true h0]; rfl, trivial, by rw [nextL, en, if_pos (.inl h0)]; exact Keep.mem hw⟩
  · try simp only [Bool.and_eq_true, Bool.or_eq_true, Bool.and_eq_false_iff, Bool.or_eq_false_iff, Bool.not_eq_true', Bool.not_eq_false', decide_eq_true_eq, decide_eq_false_iff_not, Bool.not_eq_true, Bool.not_eq_false] at h0
    refine cw_skip ?_
    refine ex_then ?_
    refine cw_seq ?_
    refine cw_seq ?_
    refine cw_region ?_
    refine sq_r (ry_move rfl) ?_
    refine sq_r (ry_nilp rfl) ?_
    refine sq_r (ry_field (o' := 0) rfl rfl) ?_
    refine sq_r (ry_field (o' := 1) rfl rfl) ?_
    refine sq_r (ry_cellc rfl) ?_
    refine sq_r (ry_lenH rfl) ?_
    refine sq_r (ry_int rfl rfl rfl) ?_
    refine sq_nil ?_
    refine ex_then ?_
    refine cw_cond rfl (fun h1 => ?_) (fun h1 => ?_)
    · try simp only [Bool.and_eq_true, Bool.or_eq_true, Bool.and_eq_false_iff, Bool.or_eq_false_iff, Bool.not_eq_true', Bool.not_eq_false', decide_eq_true_eq, decide_eq_false_iff_not, Bool.not_eq_true, Bool.not_eq_false] at h1
      refine cw_seq ?_
      refine cw_region ?_
      refine sq_r (ry_assign rfl) ?_
      refine sq_r (ry_assign rfl) ?_
      refine sq_nil ?_
      refine ex_then ?_
      refine cw_ret ?_
      refine ex_pass_ret ?_
      refine ex_ret (.inl rfl) (res_2 rfl (rv_tmp rfl) (rv_tmp rfl)) (fun w1 hw => ?_)
      exact ⟨s, by rw [nextN, nextO, en, if_neg h0, if_pos (by omega), decide_eq_false h0, decide_eq_false (by omega)]; rfl, trivial, by rw [nextL, en, if_pos (.inr (by omega))]; exact Keep.mem hw⟩
    · try simp only [Bool.and_eq_true, Bool.or_eq_true, Bool.and_eq_false_iff, Bool.or_eq_false_iff, Bool.not_eq_true', Bool.not_eq_false', decide_eq_true_eq, decide_eq_false_iff_not, Bool.not_eq_true, Bool.not_eq_false] at h1
      refine cw_skip ?_
      refine ex_then ?_
      refine cw_seq ?_
      refine cw_region ?_
      refine sq_r (ry_move rfl) ?_
      refine sq_r (ry_move rfl) ?_
      refine sq_r (ry_nilp rfl) ?_
      refine sq_r (ry_field (o' := 0) rfl rfl) ?_
      refine sq_r (ry_field (o' := 1) rfl rfl) ?_
      refine sq_r (ry_cellc rfl) ?_
      refine sq_r (ry_buildc rfl) ?_
      refine sq_buildSlice (enc := ncells) (vals := [_]) [Nd.zero] rfl rfl rfl (by decide) (by decide) fun b37 => ?_
      refine sq_append (s := s) (ys := [Nd.zero]) rfl rfl (by decide) (fun w hw => src_rows (s := ⟨false, b37, 0, 1, 1, none⟩) Try.underlying38 (by decide) ((inferInstance : Hd _ _ ⟨false, b37, 0, 1, 1, none⟩ ncells 48 [Nd.zero]).h w hw)) (by simp only [List.length_append, List.length_cons, List.length_nil]; omega) (by simp only [List.length_append, List.length_cons, List.length_nil]; omega) fun s38 hs38 hl38 => ?_
      refine sq_r (ry_nilp rfl) ?_
      refine sq_r (ry_field (o' := 0) rfl rfl) ?_
      refine sq_r (ry_field (o' := 1) rfl rfl) ?_
      refine sq_store (cs' := tcells (⟨bits, ⟨s38, []⟩⟩ : Tri)) rfl rfl (by show 1 < 2; decide) (by first | rfl | exact Sv.one _) rfl ?_
      refine sq_nil ?_
      refine ex_then ?_
      refine cw_seq ?_
      have hm : (ns ++ [Nd.zero])[node]? = some n := by rw [List.getElem?_append_left hp1]; exact hn
      have hlt : node < s38.len := by rw [hl38, List.length_append]; omega
      refine cw_lin [17] [[], [], [], [], [], [], [], [], [], [], [], [], [], [], [], [], [], []] [0, 1, 2, 3, 4, 5, 6, 7, 8, 9, 10, 11, 12, 13, 14, 15, 16, 17] [blk B (tcells ⟨bits, ⟨s38, []⟩⟩) T] (fun _ hw => Keep.mem hw) (by kernel_rfl) (by kernel_rfl) ?_
      refine ln_r rfl (ry_move rfl) ?_
      refine ln_r rfl (ry_nilp rfl) ?_
      refine ln_r rfl (ry_field (o' := 0) rfl rfl) ?_
      refine ln_r rfl (ry_field (o' := 1) rfl rfl) ?_
      refine ln_r rfl (ry_cellc rfl) ?_
      refine ln_r rfl (ry_move rfl) ?_
      refine ln_r rfl (ry_move rfl) ?_
      refine ln_r rfl (ry_move rfl) ?_
      refine ln_r rfl (ry_nilp rfl) ?_
      refine ln_r rfl (ry_field (o' := 0) rfl rfl) ?_
      refine ln_r rfl (ry_field (o' := 1) rfl rfl) ?_
      refine ln_r rfl (ry_cellc rfl) ?_
      refine ln_r rfl (ry_lenS rfl hs38 (hl38.trans (by simp : _ = ns.length + 1))) ?_
      refine ln_r rfl (ry_sub rfl rfl (by omega)) ?_
      obtain ⟨e56, he56⟩ := get_some (xs := (ns ++ [Nd.zero])) (i := node) (by omega)
      refine ln_r rfl (ry_idxSv rfl rfl rfl hs38 hlt) ?_
      refine ln_r rfl (ry_field rfl rfl) ?_
      refine ln_r rfl (ry_idxA rfl rfl (by omega) (by omega)) ?_
      refine ln_st rfl (st_stNx rfl rfl hm ((four).toNat) (by omega) (by simp only [Nat.add_eq, Int.toNat_natCast, Nat.mul_one, Nat.zero_add, Nat.add_zero] <;> omega) ⟨fun _ hw => Keep.mem hw, ?_⟩)
      refine ln_nil ?_
      refine ex_then ?_
      refine cw_seq ?_
      refine cw_region ?_
      refine sq_r (ry_move rfl) ?_
      refine sq_r (ry_nilp rfl) ?_
      refine sq_r (ry_field (o' := 0) rfl rfl) ?_
      refine sq_r (ry_field (o' := 1) rfl rfl) ?_
      refine sq_r (ry_cellc rfl) ?_
      refine sq_r (ry_lenS rfl hs38 (hl38.trans (by simp : _ = ns.length + 1))) ?_
      refine sq_r (ry_sub rfl rfl (by omega)) ?_
      refine sq_r (ry_assign rfl) ?_
      refine sq_r (ry_assign rfl) ?_
      refine sq_nil ?_
      refine ex_then ?_
      refine cw_ret ?_
      refine ex_ret (.inl rfl) (res_2 rfl (rv_tmp rfl) (rv_tmp rfl)) (fun w1 hw => ?_)
      exact ⟨s38, by rw [nextN, nextO, en, if_neg h0, if_neg (by omega), decide_eq_true (show ns.length < 512 by omega)]; simp, trivial, by rw [nextL, en, if_neg (by omega)]; have := hw.sub (List.sublist_cons_self _ _); simpa using this⟩
instance tnext_i {w0 : World} {L R1 L2 : List Ent} {i j : Nat} {B : Nat} {T : TypeId} {bits : Int} {s : Sv} {ns : List Nd} {node : Nat} {four : Int} [h : Has L B (tcells ⟨bits, ⟨s, []⟩⟩) T i] [d1 : DelI L i R1] [q : Owns R1 s ncells 48 ns j] [d2 : DelI R1 j L2] : FnC Try.prog 90 w0 L [.pointer (some ⟨B, 0, none⟩), .int .i64 (node : Nat), .int .i64 four] (Sv) (fun zz => .tuple #[.int .i64 (nextN ns node four.toNat), .bool (nextO ns node four.toNat)]) (fun zz => blk B (tcells ⟨bits, ⟨zz, []⟩⟩) T :: own ncells 48 zz (nextL ns node four.toNat) :: L2) (fun zz => True) (node < ns.length ∧ 0 ≤ four ∧ four < 16 ∧ ns.length ≤ 512) := ⟨fun hp w hw => tnext_c w0 w L2 B T bits s ns node four (mem_two h.h d1.h q.h d2.h hw) hp⟩

end Go.Proofs.Ytembaconocgmlaa
