/- Small functions of package trie, walked. -/
import Derived.Test.YtajhlgdapiihgaaMe
import Derived.Test.YtajhlgdapiihgaaMc

set_option linter.unusedSimpArgs false
set_option linter.unusedVariables false
namespace Go.Proofs.Ytajhlgdapiihgaa
open Go.Eng Go.Kb
set_option maxRecDepth 20000 in
theorem texists_c (w : World) (b : Int)  : Calls Try.prog 97 #[.int .i64 b] w fun e w' => e = .returned (.bool (decide (b = 32) || decide (b = 128))) ∧ Mem w [] w' := by
  refine calls_of (args := [_]) Try.func97 rfl Try.ntmps97 rfl ?_
  change Cw _ _ _ _ _ [(0, .int .i64 b)] []
  refine cw_seq ?_
  refine cw_region ?_
  refine sq_r (ry_assign rfl) ?_
  refine sq_nil ?_
  refine ex_then ?_
  refine cw_seq ?_
  refine cw_region ?_
  refine sq_r (ry_move rfl) ?_
  refine sq_r (ry_int rfl rfl rfl) ?_
  refine sq_r (ry_move rfl) ?_
  refine sq_gf rfl rfl rfl (fun hg => (Ry.yl (ry_move rfl))) ?_
  refine sq_gf rfl rfl rfl (fun hg => (Ry.yl (ry_int (ev_c hg rfl) rfl rfl))) ?_
  refine sq_r (ry_or rfl rfl rfl) ?_
  refine sq_r (ry_assign rfl) ?_
  refine sq_nil ?_
  refine ex_then ?_
  refine cw_ret ?_
  refine ex_ret (.inl rfl) (res_1 rfl (rv_tmp rfl)) (fun w1 hw => ?_)
  exact ⟨congrArg (fun b => Ending.returned (Value.bool b)) (rfl), Keep.mem hw⟩
instance texists_i {w0 : World} {L : List Ent} {b : Int}  : FnQ Try.prog 97 w0 L [.int .i64 b] (.bool (decide (b = 32) || decide (b = 128))) (True) := ⟨fun hp w hw => texists_c w b ⟩

end Go.Proofs.Ytajhlgdapiihgaa

/- The node behind one: walked. -/
set_option linter.unusedSimpArgs false
set_option linter.unusedVariables false
namespace Go.Proofs.Ytajhlgdapiihgaa
open Go.Eng Go.Kb
set_option maxRecDepth 20000 in
theorem tnext_c (w0 w : World) (L : List Ent) (B : Nat) (T : TypeId) (bits : Int) (s : Sv) (ns : List Nd) (node : Nat) (four : Int) (hw : Mem w0 (blk B (tcells ⟨bits, ⟨s, []⟩⟩) T :: own ncells 48 s ns :: L) w) (hpre : node < ns.length ∧ 0 ≤ four ∧ four < 16 ∧ ns.length ≤ 512) : Calls Try.prog 137 #[.pointer (some ⟨B, 0, none⟩), .int .i64 (node : Nat), .int .i64 four] w fun e w' => ∃ zz : Sv, e = .returned (.tuple #[.int .i64 (nextN ns node four.toNat), .bool (nextO ns node four.toNat)]) ∧ (True) ∧ Mem w0 (blk B (tcells ⟨bits, ⟨zz, []⟩⟩) T :: own ncells 48 zz (nextL ns node four.toNat) :: L) w' := by
  obtain ⟨hp1, hp2, hp3, hp4⟩ := hpre
  refine calls_in (args := [_, _, _]) Try.func137 rfl Try.ntmps137 rfl hw ?_
  change Cw _ _ _ _ _ [(0, .pointer (some ⟨B, 0, none⟩)), (1, .int .i64 (node : Nat)), (2, .int .i64 four)] (blk B (tcells ⟨bits, ⟨s, []⟩⟩) T :: own ncells 48 s ns :: L)
  refine cw_seq ?_
  refine cw_region ?_
  refine sq_r (ry_assign rfl) ?_
  refine sq_r (ry_assign rfl) ?_
  refine sq_nil ?_
  refine ex_then ?_
  refine cw_seq ?_
  refine cw_seq ?_
  refine cw_region ?_
  refine sq_r (ry_move rfl) ?_
  refine sq_r (ry_nilp rfl) ?_
  refine sq_r (ry_field (o' := 0) rfl rfl) ?_
  refine sq_r (ry_field (o' := 1) rfl rfl) ?_
  refine sq_r (ry_cellc rfl) ?_
  refine sq_r (ry_move rfl) ?_
  refine sq_r (ry_move rfl) ?_
  obtain ⟨n, hn⟩ := get_some (xs := ns) (i := node) (by omega)
  refine sq_r (ry_idxH rfl rfl node rfl (by omega)) ?_
  have en : ns.getD node Nd.zero = n := by simp [List.getD, hn]
  refine sq_r (ry_field rfl rfl) ?_
  refine sq_r (ry_idxA rfl rfl (by omega) (by omega)) ?_
  refine sq_r (ry_nx rfl node hn ((four).toNat) (by omega) (by simp only [Nat.add_eq, Int.toNat_natCast, Nat.mul_one, Nat.zero_add, Nat.add_zero] <;> omega)) ?_
  refine sq_r (ry_assign rfl) ?_
  refine sq_nil ?_
  refine ex_then ?_
  refine cw_seq ?_
  refine cw_region ?_
  refine sq_r (ry_move rfl) ?_
  refine sq_r (ry_int rfl rfl rfl) ?_
  refine sq_nil ?_
  refine ex_then ?_
  refine cw_cond rfl (fun h0 => ?_) (fun h0 => ?_)
  · try simp only [Bool.and_eq_true, Bool.or_eq_true, Bool.and_eq_false_iff, Bool.or_eq_false_iff, Bool.not_eq_true', Bool.not_eq_false', decide_eq_true_eq, decide_eq_false_iff_not, Bool.not_eq_true, Bool.not_eq_false] at h0
    refine cw_seq ?_
    refine cw_region ?_
    refine sq_r (ry_move rfl) ?_
    refine sq_r (ry_assign rfl) ?_
    refine sq_r (ry_assign rfl) ?_
    refine sq_nil ?_
    refine ex_then ?_
    refine cw_ret ?_
    refine ex_pass_ret ?_
    refine ex_ret (.inl rfl) (res_2 rfl (rv_tmp rfl) (rv_tmp rfl)) (fun w1 hw => ?_)
    exact ⟨s, by rw [nextN, nextO, en, if_pos h0, decide_eq_true h0]; rfl, trivial, by rw [nextL, en, if_pos (.inl h0)]; exact Keep.mem hw⟩
  · try simp only [Bool.and_eq_true, Bool.or_eq_true, Bool.and_eq_false_iff, Bool.or_eq_false_iff, Bool.not_eq_true', Bool.not_eq_false', decide_eq_true_eq, decide_eq_false_iff_not, Bool.not_eq_true, Bool.not_eq_false] at h0
    refine cw_skip ?_
    refine ex_then ?_
    refine cw_seq ?_
    refine cw_seq ?_
    refine cw_region ?_
    refine sq_r (ry_move rfl) ?_
    refine sq_r (ry_nilp rfl) ?_
    refine sq_r (ry_field (o' := 0) rfl rfl) ?_
    refine sq_r (ry_field (o' := 1) rfl rfl) ?_
    refine sq_r (ry_cellc rfl) ?_
    refine sq_r (ry_lenH rfl) ?_
    refine sq_r (ry_int rfl rfl rfl) ?_
    refine sq_nil ?_
    refine ex_then ?_
    refine cw_cond rfl (fun h1 => ?_) (fun h1 => ?_)
    · try simp only [Bool.and_eq_true, Bool.or_eq_true, Bool.and_eq_false_iff, Bool.or_eq_false_iff, Bool.not_eq_true', Bool.not_eq_false', decide_eq_true_eq, decide_eq_false_iff_not, Bool.not_eq_true, Bool.not_eq_false] at h1
      refine cw_seq ?_
      refine cw_region ?_
      refine sq_r (ry_assign rfl) ?_
      refine sq_r (ry_assign rfl) ?_
      refine sq_nil ?_
      refine ex_then ?_
      refine cw_ret ?_
      refine ex_pass_ret ?_
      refine ex_ret (.inl rfl) (res_2 rfl (rv_tmp rfl) (rv_tmp rfl)) (fun w1 hw => ?_)
      exact ⟨s, by rw [nextN, nextO, en, if_neg h0, if_pos (by omega), decide_eq_false h0, decide_eq_false (by omega)]; rfl, trivial, by rw [nextL, en, if_pos (.inr (by omega))]; exact Keep.mem hw⟩
    · try simp only [Bool.and_eq_true, Bool.or_eq_true, Bool.and_eq_false_iff, Bool.or_eq_false_iff, Bool.not_eq_true', Bool.not_eq_false', decide_eq_true_eq, decide_eq_false_iff_not, Bool.not_eq_true, Bool.not_eq_false] at h1
      refine cw_skip ?_
      refine ex_then ?_
      refine cw_seq ?_
      refine cw_region ?_
      refine sq_r (ry_move rfl) ?_
      refine sq_r (ry_move rfl) ?_
      refine sq_r (ry_nilp rfl) ?_
      refine sq_r (ry_field (o' := 0) rfl rfl) ?_
      refine sq_r (ry_field (o' := 1) rfl rfl) ?_
      refine sq_r (ry_cellc rfl) ?_
      refine sq_r (ry_buildc rfl) ?_
      refine sq_buildSlice (enc := ncells) (vals := [_]) [Nd.zero] rfl rfl rfl (by decide) (by decide) fun b37 => ?_
      refine sq_append (s := s) (ys := [Nd.zero]) rfl rfl (by decide) (fun w hw => src_rows (s := ⟨false, b37, 0, 1, 1, none⟩) Try.underlying74 (by decide) ((inferInstance : Hd _ _ ⟨false, b37, 0, 1, 1, none⟩ ncells 48 [Nd.zero]).h w hw)) (by simp only [List.length_append, List.length_cons, List.length_nil]; omega) (by simp only [List.length_append, List.length_cons, List.length_nil]; omega) fun s38 hs38 hl38 => ?_
      refine sq_r (ry_nilp rfl) ?_
      refine sq_r (ry_field (o' := 0) rfl rfl) ?_
      refine sq_r (ry_field (o' := 1) rfl rfl) ?_
      refine sq_store (cs' := tcells (⟨bits, ⟨s38, []⟩⟩ : Tri)) rfl rfl (by show 1 < 2; decide) (by first | rfl | exact Sv.one _) rfl ?_
      refine sq_nil ?_
      refine ex_then ?_
      refine cw_seq ?_
      have hm : (ns ++ [Nd.zero])[node]? = some n := by rw [List.getElem?_append_left hp1]; exact hn
      have hlt : node < s38.len := by rw [hl38, List.length_append]; omega
      refine cw_lin [17] [[], [], [], [], [], [], [], [], [], [], [], [], [], [], [], [], [], []] [0, 1, 2, 3, 4, 5, 6, 7, 8, 9, 10, 11, 12, 13, 14, 15, 16, 17] [blk B (tcells ⟨bits, ⟨s38, []⟩⟩) T] (fun _ hw => Keep.mem hw) (by kernel_rfl) (by kernel_rfl) ?_
      refine ln_r rfl (ry_move rfl) ?_
      refine ln_r rfl (ry_nilp rfl) ?_
      refine ln_r rfl (ry_field (o' := 0) rfl rfl) ?_
      refine ln_r rfl (ry_field (o' := 1) rfl rfl) ?_
      refine ln_r rfl (ry_cellc rfl) ?_
      refine ln_r rfl (ry_move rfl) ?_
      refine ln_r rfl (ry_move rfl) ?_
      refine ln_r rfl (ry_move rfl) ?_
      refine ln_r rfl (ry_nilp rfl) ?_
      refine ln_r rfl (ry_field (o' := 0) rfl rfl) ?_
      refine ln_r rfl (ry_field (o' := 1) rfl rfl) ?_
      refine ln_r rfl (ry_cellc rfl) ?_
      refine ln_r rfl (ry_lenS rfl hs38 (hl38.trans (by simp : _ = ns.length + 1))) ?_
      refine ln_r rfl (ry_sub rfl rfl (by omega)) ?_
      obtain ⟨e56, he56⟩ := get_some (xs := (ns ++ [Nd.zero])) (i := node) (by omega)
      refine ln_r rfl (ry_idxSv rfl rfl rfl hs38 hlt) ?_
      refine ln_r rfl (ry_field rfl rfl) ?_
      refine ln_r rfl (ry_idxA rfl rfl (by omega) (by omega)) ?_
      refine ln_st rfl (st_stNx rfl rfl hm ((four).toNat) (by omega) (by simp only [Nat.add_eq, Int.toNat_natCast, Nat.mul_one, Nat.zero_add, Nat.add_zero] <;> omega) ⟨fun _ hw => Keep.mem hw, ?_⟩)
      refine ln_nil ?_
      refine ex_then ?_
      refine cw_seq ?_
      refine cw_region ?_
      refine sq_r (ry_move rfl) ?_
      refine sq_r (ry_nilp rfl) ?_
      refine sq_r (ry_field (o' := 0) rfl rfl) ?_
      refine sq_r (ry_field (o' := 1) rfl rfl) ?_
      refine sq_r (ry_cellc rfl) ?_
      refine sq_r (ry_lenS rfl hs38 (hl38.trans (by simp : _ = ns.length + 1))) ?_
      refine sq_r (ry_sub rfl rfl (by omega)) ?_
      refine sq_r (ry_assign rfl) ?_
      refine sq_r (ry_assign rfl) ?_
      refine sq_nil ?_
      refine ex_then ?_
      refine cw_ret ?_
      refine ex_ret (.inl rfl) (res_2 rfl (rv_tmp rfl) (rv_tmp rfl)) (fun w1 hw => ?_)
      exact ⟨s38, by rw [nextN, nextO, en, if_neg h0, if_neg (by omega), decide_eq_true (show ns.length < 512 by omega)]; simp, trivial, by rw [nextL, en, if_neg (by omega)]; have := hw.sub (List.sublist_cons_self _ _); simpa using this⟩
instance tnext_i {w0 : World} {L R1 L2 : List Ent} {i j : Nat} {B : Nat} {T : TypeId} {bits : Int} {s : Sv} {ns : List Nd} {node : Nat} {four : Int} [h : Has L B (tcells ⟨bits, ⟨s, []⟩⟩) T i] [d1 : DelI L i R1] [q : Owns R1 s ncells 48 ns j] [d2 : DelI R1 j L2] : FnC Try.prog 137 w0 L [.pointer (some ⟨B, 0, none⟩), .int .i64 (node : Nat), .int .i64 four] (Sv) (fun zz => .tuple #[.int .i64 (nextN ns node four.toNat), .bool (nextO ns node four.toNat)]) (fun zz => blk B (tcells ⟨bits, ⟨zz, []⟩⟩) T :: own ncells 48 zz (nextL ns node four.toNat) :: L2) (fun zz => True) (node < ns.length ∧ 0 ≤ four ∧ four < 16 ∧ ns.length ≤ 512) := ⟨fun hp w hw => tnext_c w0 w L2 B T bits s ns node four (mem_two h.h d1.h q.h d2.h hw) hp⟩

end Go.Proofs.Ytajhlgdapiihgaa

/- A route more in a trie: walked. -/
set_option linter.unusedSimpArgs false
set_option linter.unusedVariables false
namespace Go.Proofs.Ytajhlgdapiihgaa
open Go.Eng Go.Kb
set_option maxRecDepth 20000 in
theorem tadd_c (w0 w : World) (L : List Ent) (B : Nat) (T : TypeId) (bits : Int) (s : Sv) (W : List Wy) (R : List Rt) (r : Rt) (hw : Mem w0 (blk B (tcells ⟨bits, ⟨s, []⟩⟩) T :: own ncells 48 s (nodes bits W R) :: L) w) (hpre : pmay r.p = true ∧ r.p.bits = bits ∧ WOk W ∧ Holds' bits W R ∧ W.length ≤ 512) : Calls Try.prog 98 #[.pointer (some ⟨B, 0, none⟩), .agg (rcells r)] w fun e w' => ∃ zz : Sv × List Nd, e = .returned (.bool (decide ((addTo W r.p (lastN r.p)).length ≤ 512))) ∧ ((addTo W r.p (lastN r.p)).length ≤ 512 → zz.2 = nodes bits (addTo W r.p (lastN r.p)) (R ++ [r])) ∧ Mem w0 (blk B (tcells ⟨bits, ⟨zz.1, []⟩⟩) T :: own ncells 48 zz.1 zz.2 :: L) w' := by
  obtain ⟨hp1, hp2, hp3, hp4, hp5⟩ := hpre
  obtain ⟨hq1, hq2, hq3, hq4⟩ := (pmay_iff r.p).1 hp1
  have hlt := lastN_lt hp1
  have hroom := kst_room hp1
  have hke := kst_eq r.p.key (lastN r.p)
  have hop := openN_eq hp1
  have htd := tdiv_rng hq2 (by omega)
  refine calls_in (args := [_, _]) Try.func98 rfl Try.ntmps98 rfl hw ?_
  change Cw _ _ _ _ _ [(0, .pointer (some ⟨B, 0, none⟩)), (1, .agg (rcells r))] (blk B (tcells ⟨bits, ⟨s, []⟩⟩) T :: own ncells 48 s (nodes bits W R) :: L)
  refine cw_seq ?_
  refine cw_region ?_
  refine sq_boxA rfl fun b3 => ?_
  refine sq_r (ry_assign rfl) ?_
  refine sq_nil ?_
  refine ex_then ?_
  refine cw_seq ?_
  refine cw_region ?_
  refine sq_r (ry_field (o' := 0) rfl rfl) ?_
  refine sq_r (ry_field (o' := 1) rfl rfl) ?_
  refine sq_r (ry_cellc rfl) ?_
  refine sq_r (ry_sub rfl rfl (by omega)) ?_
  refine sq_r (ry_int rfl rfl (by rw [intOp, if_neg (by decide), wrap64_in (by omega)])) ?_
  refine sq_r (Ry.to (ry_max rfl rfl) (by rw [max_last hq2])) ?_
  refine sq_r (ry_assign rfl) ?_
  refine sq_nil ?_
  refine ex_then ?_
  refine cw_seq ?_
  refine cw_region ?_
  refine sq_r (ry_assign rfl) ?_
  refine sq_nil ?_
  refine ex_then ?_
  refine cw_seq ?_
  refine cw_seq ?_
  refine cw_region ?_
  refine sq_r (ry_move rfl) ?_
  refine sq_r (ry_move rfl) ?_
  refine sq_nil ?_
  refine ex_then ?_
  refine cw_block ?_
  refine cw_loop (X := Nat × Sv) (fun zz => [(21, .int .i64 (zz.1 : Nat)), (6, .int .i64 (((addTo W r.p zz.1).idxOf (wayAt r.p.key zz.1)) : Nat)), (0, .pointer (some ⟨B, 0, none⟩)), (3, .pointer (some ⟨b3, 0, none⟩)), (5, .int .i64 (lastN r.p : Nat)), (20, .int .i64 (lastN r.p : Nat))]) (fun zz => blk B (tcells ⟨bits, ⟨zz.2, []⟩⟩) T :: own ncells 48 zz.2 (nodes bits (addTo W r.p zz.1) R) :: blk b3 (rcells r) 30 :: L) (fun zz => zz.1 ≤ lastN r.p ∧ (addTo W r.p zz.1).length ≤ 512) (fun zz => lastN r.p - zz.1) (0, s) ⟨Nat.zero_le _, hp5⟩ (Sub.cons rfl (Sub.cons (look_eq rfl (by rw [wayAt_zero, addTo_zero, get_idx hp3.nodup hp3.root]; rfl)) (Sub.cons rfl (Sub.cons rfl (Sub.cons rfl (Sub.cons rfl (Sub.nil _))))))) (fun w hw => (Keep.mem hw : Mem _ (blk B (tcells ⟨bits, ⟨s, []⟩⟩) T :: own ncells 48 s (nodes bits W R) :: blk b3 (rcells r) 30 :: L) _)) ?_
  rintro ⟨i, s1⟩ ⟨hi1, hi2⟩
  dsimp only
  simp only at hi1 hi2
  have hWi := hp3.add (p := r.p) (n := i) (by omega)
  have hix := idx_get (addTo_last hp3 r.p i)
  have hil := idx_lt (addTo_last hp3 r.p i)
  have hk := kst_lt r.p.key i
  have hke2 := kst_eq r.p.key i
  refine cw_seq ?_
  refine cw_region ?_
  refine sq_r (ry_int rfl rfl rfl) ?_
  refine sq_nil ?_
  refine ex_then ?_
  refine cw_seq ?_
  refine cw_cond rfl (fun h0 => ?_) (fun h0 => ?_)
  · try simp only [Bool.and_eq_true, Bool.or_eq_true, Bool.and_eq_false_iff, Bool.or_eq_false_iff, Bool.not_eq_true', Bool.not_eq_false', decide_eq_true_eq, decide_eq_false_iff_not, Bool.not_eq_true, Bool.not_eq_false] at h0
    refine cw_skip ?_
    refine ex_then ?_
    refine cw_seq ?_
    refine cw_block ?_
    refine cw_seq ?_
    refine cw_region ?_
    refine sq_r (ry_move rfl) ?_
    refine sq_r (ry_assign rfl) ?_
    refine sq_nil ?_
    refine ex_then ?_
    refine cw_seq ?_
    refine cw_region ?_
    refine sq_r (ry_move rfl) ?_
    refine sq_r (ry_move rfl) ?_
    refine sq_r (ry_field (o' := 0) rfl rfl) ?_
    refine sq_r (ry_field (o' := 2) rfl rfl) ?_
    refine sq_r (ry_part rfl) ?_
    refine sq_r (ry_move rfl) ?_
    refine sq_y (yl_callC rfl trivial) ?_
    refine sq_callC rfl ⟨by rw [nodes_length]; exact hil, by omega, by omega, by rw [nodes_length]; exact hi2⟩ fun x32 hp32 => ?_
    have ho : nextO (nodes bits (addTo W r.p i) R) ((addTo W r.p i).idxOf (wayAt r.p.key i)) (kstep r.p.key i).toNat = decide ((addTo W r.p (i + 1)).length ≤ 512) := by have := next_ok hWi (R := R) (bits := bits) hix hk hi2; rw [child_wayAt _ _ (by omega), ← addTo_succ] at this; exact this
    refine sq_r (ry_move rfl) ?_
    refine sq_r (ry_extract (v := .int .i64 (nextN (nodes bits (addTo W r.p i) R) ((addTo W r.p i).idxOf (wayAt r.p.key i)) (kstep r.p.key ((i : Nat) : Int)).toNat)) rfl rfl) ?_
    refine sq_r (ry_extract (v := .bool (nextO (nodes bits (addTo W r.p i) R) ((addTo W r.p i).idxOf (wayAt r.p.key i)) (kstep r.p.key ((i : Nat) : Int)).toNat)) rfl rfl) ?_
    refine sq_r (ry_assign rfl) ?_
    refine sq_r (ry_assign rfl) ?_
    refine sq_nil ?_
    refine ex_then ?_
    refine cw_seq ?_
    refine cw_seq ?_
    refine cw_region ?_
    refine sq_r (ry_move rfl) ?_
    refine sq_r (ry_not rfl) ?_
    refine sq_nil ?_
    refine ex_then ?_
    refine cw_cond rfl (fun h1 => ?_) (fun h1 => ?_)
    · try simp only [Bool.and_eq_true, Bool.or_eq_true, Bool.and_eq_false_iff, Bool.or_eq_false_iff, Bool.not_eq_true', Bool.not_eq_false', decide_eq_true_eq, decide_eq_false_iff_not, Bool.not_eq_true, Bool.not_eq_false] at h1
      refine cw_seq ?_
      refine cw_region ?_
      refine sq_r (ry_assign rfl) ?_
      refine sq_nil ?_
      refine ex_then ?_
      refine cw_ret ?_
      refine ex_pass_ret ?_
      refine ex_block_ret ?_
      refine ex_pass_ret ?_
      refine ex_pass_ret ?_
      refine ex_block_ret ?_
      refine ex_pass_ret ?_
      refine ex_ret (.inl rfl) (res_1 rfl (rv_tmp rfl)) (fun w1 hw => ?_)
      have hno : ¬ (addTo W r.p (lastN r.p)).length ≤ 512 := by
        have h5 := (addTo_le (W := W) (p := r.p) (show i + 1 ≤ lastN r.p by omega)).length_le
        have h6 : ¬ (addTo W r.p (i + 1)).length ≤ 512 := by simpa [ho] using h1
        omega
      exact ⟨(x32, nextL (nodes bits (addTo W r.p i) R) ((addTo W r.p i).idxOf (wayAt r.p.key i)) (kstep r.p.key i).toNat), by rw [decide_eq_false hno], fun h => absurd h hno, Keep.mem hw⟩
    · try simp only [Bool.and_eq_true, Bool.or_eq_true, Bool.and_eq_false_iff, Bool.or_eq_false_iff, Bool.not_eq_true', Bool.not_eq_false', decide_eq_true_eq, decide_eq_false_iff_not, Bool.not_eq_true, Bool.not_eq_false] at h1
      refine cw_skip ?_
      refine ex_then ?_
      refine cw_region ?_
      refine sq_r (ry_move rfl) ?_
      refine sq_r (ry_assign rfl) ?_
      refine sq_nil ?_
      refine ex_block ?_
      refine ex_then ?_
      refine cw_region ?_
      refine sq_r (ry_add rfl rfl (by omega)) ?_
      refine sq_r (ry_move rfl) ?_
      refine sq_nil ?_
      have hl1 : (addTo W r.p (i + 1)).length ≤ 512 := by simpa [ho] using h1
      have hl2 := hl1
      rw [addTo_succ, ← child_wayAt _ _ (by omega)] at hl2
      have hnl : nextL (nodes bits (addTo W r.p i) R) ((addTo W r.p i).idxOf (wayAt r.p.key i)) (kst r.p.key i) = nodes bits (addTo W r.p (i + 1)) R := by rw [next_list hWi hix hk (by show i < 31; omega) (hp4.mono (addTo_pre _)) hl2, child_wayAt _ _ (by omega), ← addTo_succ]
      have hnn : nextN (nodes bits (addTo W r.p i) R) ((addTo W r.p i).idxOf (wayAt r.p.key i)) (kstep r.p.key i).toNat = (((addTo W r.p (i + 1)).idxOf (wayAt r.p.key (i + 1)) : Nat) : Int) := by have := next_num hWi (R := R) (bits := bits) hix hk hl2; rw [child_wayAt _ _ (by omega), ← addTo_succ] at this; exact this
      unfold kst at hnl
      exact ex_again (x := (i, s1)) (i + 1, x32) ⟨by first | omega | (simp only []; omega), by simpa [ho] using h1⟩ (by simp only; omega) (Sub.cons rfl (Sub.cons (look_eq rfl (by rw [hnn])) (Sub.cons rfl (Sub.cons rfl (Sub.cons rfl (Sub.cons rfl (Sub.nil _))))))) (fun w hw => by rw [hnl] at hw; exact Keep.mem hw)
  · try simp only [Bool.and_eq_true, Bool.or_eq_true, Bool.and_eq_false_iff, Bool.or_eq_false_iff, Bool.not_eq_true', Bool.not_eq_false', decide_eq_true_eq, decide_eq_false_iff_not, Bool.not_eq_true, Bool.not_eq_false] at h0
    obtain rfl : i = lastN r.p := by omega
    refine cw_exit ?_
    refine ex_pass_exit ?_
    refine ex_pass_exit ?_
    refine ex_block_hit ?_
    refine ex_then ?_
    refine cw_seq ?_
    refine cw_region ?_
    refine sq_r (ry_field (o' := 0) rfl rfl) ?_
    refine sq_r (ry_field (o' := 2) rfl rfl) ?_
    refine sq_r (ry_part rfl) ?_
    refine sq_r (ry_move rfl) ?_
    refine sq_y (yl_callC rfl trivial) ?_
    refine sq_r (ry_assign rfl) ?_
    refine sq_nil ?_
    refine ex_then ?_
    refine cw_seq ?_
    refine cw_region ?_
    refine sq_r (ry_field (o' := 0) rfl rfl) ?_
    refine sq_r (ry_field (o' := 1) rfl rfl) ?_
    refine sq_r (ry_cellc rfl) ?_
    refine sq_r (ry_move rfl) ?_
    refine sq_r (ry_mul rfl rfl (by omega)) ?_
    refine sq_r (ry_sub rfl rfl (by omega)) ?_
    refine sq_r (ry_sub rfl rfl (by omega)) ?_
    refine sq_r (Ry.to (ry_shl rfl rfl (by omega)) (by rw [shl_open hp1])) ?_
    refine sq_r (ry_assign rfl) ?_
    refine sq_nil ?_
    refine ex_then ?_
    refine cw_seq ?_
    refine cw_seq ?_
    refine cw_region ?_
    refine sq_r (ry_move rfl) ?_
    refine sq_r (ry_assign rfl) ?_
    refine sq_nil ?_
    refine ex_then ?_
    refine cw_block ?_
    refine cw_loop (X := Nat) (fun zz => [(12, .int .i64 (zz : Nat)), (0, .pointer (some ⟨B, 0, none⟩)), (3, .pointer (some ⟨b3, 0, none⟩)), (6, .int .i64 (((addTo W r.p (lastN r.p)).idxOf (wayAt r.p.key (lastN r.p))) : Nat)), (10, .int .i64 (kstep r.p.key ((lastN r.p : Nat) : Int))), (11, .int .i64 (2 ^ openN r.p : Nat))]) (fun zz => blk B (tcells ⟨bits, ⟨s1, []⟩⟩) T :: own ncells 48 s1 (nodesP bits (addTo W r.p (lastN r.p)) R r zz) :: blk b3 (rcells r) 30 :: L) (fun zz => kst r.p.key (lastN r.p) ≤ zz ∧ zz ≤ kst r.p.key (lastN r.p) + 2 ^ openN r.p) (fun zz => kst r.p.key (lastN r.p) + 2 ^ openN r.p - zz) (kst r.p.key (lastN r.p)) ⟨Nat.le_refl _, Nat.le_add_right _ _⟩ (Sub.cons (look_eq rfl (by rw [hke])) (Sub.cons rfl (Sub.cons rfl (Sub.cons rfl (Sub.cons rfl (Sub.cons rfl (Sub.nil _))))))) (fun w hw => by rw [nodesP_start hWi hp1 hp2]; exact Keep.mem hw) ?_
    rintro f ⟨hf1, hf2⟩
    refine cw_seq ?_
    refine cw_seq ?_
    refine cw_region ?_
    refine sq_r (ry_move rfl) ?_
    refine sq_r (ry_move rfl) ?_
    refine sq_r (ry_move rfl) ?_
    refine sq_r (ry_add rfl rfl (by omega)) ?_
    refine sq_r (ry_int rfl rfl rfl) ?_
    refine sq_nil ?_
    refine ex_then ?_
    refine cw_cond rfl (fun h2 => ?_) (fun h2 => ?_)
    · try simp only [Bool.and_eq_true, Bool.or_eq_true, Bool.and_eq_false_iff, Bool.or_eq_false_iff, Bool.not_eq_true', Bool.not_eq_false', decide_eq_true_eq, decide_eq_false_iff_not, Bool.not_eq_true, Bool.not_eq_false] at h2
      refine cw_skip ?_
      refine ex_then ?_
      refine cw_seq ?_
      refine cw_block ?_
      refine cw_seq ?_
      refine cw_region ?_
      refine sq_r (ry_move rfl) ?_
      refine sq_r (ry_nilp rfl) ?_
      refine sq_r (ry_field (o' := 0) rfl rfl) ?_
      refine sq_r (ry_field (o' := 1) rfl rfl) ?_
      refine sq_r (ry_cellc rfl) ?_
      refine sq_r (ry_move rfl) ?_
      refine sq_r (ry_move rfl) ?_
      obtain ⟨n, hn⟩ := get_some (xs := (nodesP bits (addTo W r.p (lastN r.p)) R r f)) (i := ((addTo W r.p (lastN r.p)).idxOf (wayAt r.p.key (lastN r.p)))) (by rw [nodesP_length]; exact hil)
      refine sq_r (ry_idxH rfl rfl ((addTo W r.p (lastN r.p)).idxOf (wayAt r.p.key (lastN r.p))) rfl (by rw [nodesP_length]; exact hil)) ?_
      refine sq_r (ry_field rfl rfl) ?_
      refine sq_r (ry_idxA rfl rfl (by omega) (by omega)) ?_
      refine sq_r (ry_assign rfl) ?_
      refine sq_nil ?_
      refine ex_then ?_
      refine cw_seq ?_
      refine cw_quiet (by kernel_rfl) (by kernel_rfl) ?_
      refine qt_r (ry_move rfl) ?_
      refine qt_r (ry_nilp rfl) ?_
      refine qt_r (ry_field rfl rfl) ?_
      refine qt_r (ry_slen rfl ((addTo W r.p (lastN r.p)).idxOf (wayAt r.p.key (lastN r.p))) hn f (by omega) (by simp only [Nat.add_eq, Int.toNat_natCast, Nat.mul_one, Nat.zero_add, Nat.add_zero] <;> omega)) ?_
      refine qt_r (ry_field (o' := 0) rfl rfl) ?_
      refine qt_r (ry_field (o' := 1) rfl rfl) ?_
      refine qt_r (ry_cellc rfl) ?_
      refine qt_r (ry_int rfl rfl rfl) ?_
      refine qt_nil ?_
      refine ex_then ?_
      refine cw_cond rfl (fun h3 => ?_) (fun h3 => ?_)
      · try simp only [Bool.and_eq_true, Bool.or_eq_true, Bool.and_eq_false_iff, Bool.or_eq_false_iff, Bool.not_eq_true', Bool.not_eq_false', decide_eq_true_eq, decide_eq_false_iff_not, Bool.not_eq_true, Bool.not_eq_false] at h3
        refine cw_region ?_
        refine sq_r (ry_move rfl) ?_
        refine sq_r (ry_field (o' := 0) rfl rfl) ?_
        refine sq_r (ry_field (o' := 1) rfl rfl) ?_
        refine sq_r (ry_cellc rfl) ?_
        refine sq_r (ry_add rfl rfl (by omega)) ?_
        refine sq_r (ry_field (o' := 18) rfl rfl) ?_
        refine sq_r (ry_cellc rfl) ?_
        refine sq_r (ry_buildc rfl) ?_
        refine sq_r (ry_nilp rfl) ?_
        refine sq_stSl rfl rfl hn f (by omega) (by simp only [Nat.add_eq, Int.toNat_natCast, Nat.mul_one, Nat.zero_add, Nat.add_zero] <;> omega) ?_
        refine sq_nil ?_
        refine ex_block ?_
        refine ex_then ?_
        refine cw_region ?_
        refine sq_r (ry_move rfl) ?_
        refine sq_r (ry_add rfl rfl (by omega)) ?_
        refine sq_r (ry_assign rfl) ?_
        refine sq_nil ?_
        have hsl : (slotF bits R (wayAt r.p.key (lastN r.p)) f).len ≤ r.p.len := by rw [← nodesP_slot hix (by omega) hn]; exact h3
        exact ex_again (x := (f)) (f + 1) ⟨by first | omega | (simp only []; omega), by first | omega | (simp only []; omega)⟩ (by first | omega | (simp only []; omega)) (Sub.cons rfl (Sub.cons rfl (Sub.cons rfl (Sub.cons rfl (Sub.cons rfl (Sub.cons rfl (Sub.nil _))))))) (fun w hw => by rw [nodesP_put hWi hp1 hp2 hix hn hf1 (by omega) hsl] at hw; exact Keep.mem hw)
      · try simp only [Bool.and_eq_true, Bool.or_eq_true, Bool.and_eq_false_iff, Bool.or_eq_false_iff, Bool.not_eq_true', Bool.not_eq_false', decide_eq_true_eq, decide_eq_false_iff_not, Bool.not_eq_true, Bool.not_eq_false] at h3
        refine cw_skip ?_
        refine ex_block ?_
        refine ex_then ?_
        refine cw_region ?_
        refine sq_r (ry_move rfl) ?_
        refine sq_r (ry_add rfl rfl (by omega)) ?_
        refine sq_r (ry_assign rfl) ?_
        refine sq_nil ?_
        have hsl : ¬ (slotF bits R (wayAt r.p.key (lastN r.p)) f).len ≤ r.p.len := by rw [← nodesP_slot hix (by omega) hn]; exact h3
        exact ex_again (x := (f)) (f + 1) ⟨by first | omega | (simp only []; omega), by first | omega | (simp only []; omega)⟩ (by first | omega | (simp only []; omega)) (Sub.cons rfl (Sub.cons rfl (Sub.cons rfl (Sub.cons rfl (Sub.cons rfl (Sub.cons rfl (Sub.nil _))))))) (fun w hw => by rw [nodesP_keep hWi hsl]; exact Keep.mem hw)
    · try simp only [Bool.and_eq_true, Bool.or_eq_true, Bool.and_eq_false_iff, Bool.or_eq_false_iff, Bool.not_eq_true', Bool.not_eq_false', decide_eq_true_eq, decide_eq_false_iff_not, Bool.not_eq_true, Bool.not_eq_false] at h2
      obtain rfl : f = kst r.p.key (lastN r.p) + 2 ^ openN r.p := by omega
      refine cw_exit ?_
      refine ex_pass_exit ?_
      refine ex_pass_exit ?_
      refine ex_block_hit ?_
      refine ex_then ?_
      refine cw_seq ?_
      refine cw_region ?_
      refine sq_r (ry_assign rfl) ?_
      refine sq_nil ?_
      refine ex_then ?_
      refine cw_ret ?_
      refine ex_ret (.inl rfl) (res_1 rfl (rv_tmp rfl)) (fun w1 hw => ?_)
      exact ⟨(s1, nodesP bits (addTo W r.p (lastN r.p)) R r (kst r.p.key (lastN r.p) + 2 ^ openN r.p)), by rw [decide_eq_true hi2], fun _ => nodesP_end hWi hp1 hp2, Keep.mem hw⟩
instance tadd_i {w0 : World} {L R1 L2 : List Ent} {i j : Nat} {B : Nat} {T : TypeId} {bits : Int} {s : Sv} {W : List Wy} {R : List Rt} {r : Rt} [h : Has L B (tcells ⟨bits, ⟨s, []⟩⟩) T i] [d1 : DelI L i R1] [q : Owns R1 s ncells 48 (nodes bits W R) j] [d2 : DelI R1 j L2] : FnC Try.prog 98 w0 L [.pointer (some ⟨B, 0, none⟩), .agg (rcells r)] (Sv × List Nd) (fun zz => .bool (decide ((addTo W r.p (lastN r.p)).length ≤ 512))) (fun zz => blk B (tcells ⟨bits, ⟨zz.1, []⟩⟩) T :: own ncells 48 zz.1 zz.2 :: L2) (fun zz => (addTo W r.p (lastN r.p)).length ≤ 512 → zz.2 = nodes bits (addTo W r.p (lastN r.p)) (R ++ [r])) (pmay r.p = true ∧ r.p.bits = bits ∧ WOk W ∧ Holds' bits W R ∧ W.length ≤ 512) := ⟨fun hp w hw => tadd_c w0 w L2 B T bits s W R r (mem_two h.h d1.h q.h d2.h hw) hp⟩

end Go.Proofs.Ytajhlgdapiihgaa

/- A table as a trie: walked. -/
set_option linter.unusedSimpArgs false
set_option linter.unusedVariables false
namespace Go.Proofs.Ytajhlgdapiihgaa
open Go.Eng Go.Kb
set_option maxRecDepth 20000 in
theorem tbuild_c (w : World) (t : Sv) (ts : List Rt) (bits : Int) (ht : Lies rcells 19 (hp w) t ts) : Calls Try.prog 49 #[t.val, .int .i64 bits] w fun e w' => ∃ zz : Tri, e = .returned (.tuple #[.agg (tcells zz), .int .i64 (buildE ts bits)]) ∧ (zz.bits = buildB ts bits ∧ zz.ns.xs = buildN ts bits) ∧ Mem w [Deep.ent zz] w' := by
  have ght : Gv w t rcells 19 ts := ⟨ht⟩
  refine calls_of (args := [_, _]) Try.func49 rfl Try.ntmps49 rfl ?_
  change Cw _ _ _ _ _ [(0, t.val), (1, .int .i64 bits)] []
  refine cw_seq ?_
  refine cw_region ?_
  refine sq_allocA fun b4 => ?_
  refine sq_r (ry_assign rfl) ?_
  refine sq_nil ?_
  refine ex_then ?_
  refine cw_seq ?_
  refine cw_seq ?_
  refine cw_region ?_
  refine sq_r (ry_move rfl) ?_
  refine sq_y (yl_callC rfl trivial) ?_
  refine sq_r (ry_not rfl) ?_
  refine sq_r (ry_move rfl) ?_
  refine sq_gf rfl rfl rfl (fun hg => (Ry.yl (ry_move rfl))) ?_
  refine sq_gf rfl rfl rfl (fun hg => yl_callC (evl_cons (ev_c hg rfl) evl_nil) trivial) ?_
  refine sq_gf rfl rfl rfl (fun hg => (Ry.yl (ry_not (ev_c hg rfl)))) ?_
  refine sq_r (ry_or rfl rfl rfl) ?_
  refine sq_nil ?_
  refine ex_then ?_
  refine cw_cond rfl (fun h0 => ?_) (fun h0 => ?_)
  · try simp only [Bool.and_eq_true, Bool.or_eq_true, Bool.and_eq_false_iff, Bool.or_eq_false_iff, Bool.not_eq_true', Bool.not_eq_false', decide_eq_true_eq, decide_eq_false_iff_not, Bool.not_eq_true, Bool.not_eq_false] at h0
    have hc : ¬ (tright ts = true ∧ (bits = 32 ∨ bits = 128)) := by rintro ⟨h1, h2⟩; rcases h2 with h2 | h2 <;> simp [h1, h2] at h0
    obtain ⟨he1, he2, he3⟩ := buildE_arg hc
    refine cw_seq ?_
    refine cw_region ?_
    refine sq_r (ry_buildc rfl) ?_
    refine sq_storeW rfl rfl ?_
    refine sq_r (ry_assign rfl) ?_
    refine sq_nil ?_
    refine ex_then ?_
    refine cw_ret ?_
    refine ex_pass_ret ?_
    refine ex_ret (.inl rfl) (res_2 rfl (rv_agg rfl) (rv_tmp rfl)) (fun w1 hw => ?_)
    exact ⟨(⟨0, ⟨Sv.none, []⟩⟩ : Tri), by rw [he1], ⟨he2.symm, he3.symm⟩, Mem.nilEnt (τ := Nd) (enc := ncells) (c := 48) (Keep.mem hw : Mem w [] _)⟩
  · try simp only [Bool.and_eq_true, Bool.or_eq_true, Bool.and_eq_false_iff, Bool.or_eq_false_iff, Bool.not_eq_true', Bool.not_eq_false', decide_eq_true_eq, decide_eq_false_iff_not, Bool.not_eq_true, Bool.not_eq_false] at h0
    have hc : tright ts = true ∧ (bits = 32 ∨ bits = 128) := by simpa using h0
    have hlen := tr_len hc.1
    refine cw_skip ?_
    refine ex_then ?_
    refine cw_seq ?_
    refine cw_region ?_
    refine sq_r (ry_move rfl) ?_
    refine sq_makeS (enc := ncells) (n := 1) (cap := 1) Nd.zero rfl rfl rfl rfl rfl (by omega) (by omega) (by omega) fun b19 => ?_
    refine sq_r (ry_build (v := .agg (tcells ⟨bits, ⟨⟨false, b19, 0, 1, 1, none⟩, []⟩⟩)) rfl (tri_build bits _ [])) ?_
    refine sq_r (ry_buildc rfl) ?_
    refine sq_allocA fun b6 => ?_
    refine sq_storeW rfl rfl ?_
    refine sq_nil ?_
    refine ex_then ?_
    refine cw_seq ?_
    refine cw_seq ?_
    refine cw_region ?_
    refine sq_r (ry_move rfl) ?_
    refine sq_r (ry_lenH rfl) ?_
    refine sq_r (ry_move rfl) ?_
    refine sq_nil ?_
    refine ex_then ?_
    refine cw_block ?_
    refine cw_loop (X := Nat × Sv) (fun zz => [(24, .int .i64 (zz.1 : Nat)), (6, .pointer (some ⟨b6, 0, none⟩)), (1, .int .i64 bits), (4, .pointer (some ⟨b4, 0, none⟩)), (22, t.val), (23, .int .i64 (ts.length : Nat))]) (fun zz => [blk b6 (tcells ⟨bits, ⟨zz.2, []⟩⟩) 153, own ncells 48 zz.2 (nodes bits (waysF bits (ts.take zz.1)) (ts.take zz.1)), blk b4 (tcells (⟨0, ⟨Sv.none, []⟩⟩ : Tri)) 76]) (fun zz => zz.1 ≤ ts.length ∧ (waysF bits (ts.take zz.1)).length ≤ 512) (fun zz => ts.length - zz.1) (0, ⟨false, b19, 0, 1, 1, none⟩) ⟨Nat.zero_le _, (by decide : [root].length ≤ 512)⟩ (Sub.cons rfl (Sub.cons rfl (Sub.cons rfl (Sub.cons rfl (Sub.cons rfl (Sub.cons rfl (Sub.nil _))))))) (fun w hw => by rw [show List.replicate 1 Nd.zero = nodes bits [root] [] from (nodes_root bits).symm] at hw; exact (Keep.mem hw : Mem _ [blk b6 (tcells ⟨bits, ⟨⟨false, b19, 0, 1, 1, none⟩, []⟩⟩) 153, own ncells 48 ⟨false, b19, 0, 1, 1, none⟩ (nodes bits [root] []), blk b4 (tcells (⟨0, ⟨Sv.none, []⟩⟩ : Tri)) 76] _)) ?_
    rintro ⟨i, s1⟩ ⟨hi1, hi2⟩
    dsimp only
    simp only at hi1 hi2
    refine cw_seq ?_
    refine cw_region ?_
    refine sq_r (ry_int rfl rfl rfl) ?_
    refine sq_nil ?_
    refine ex_then ?_
    refine cw_seq ?_
    refine cw_cond rfl (fun h1 => ?_) (fun h1 => ?_)
    · try simp only [Bool.and_eq_true, Bool.or_eq_true, Bool.and_eq_false_iff, Bool.or_eq_false_iff, Bool.not_eq_true', Bool.not_eq_false', decide_eq_true_eq, decide_eq_false_iff_not, Bool.not_eq_true, Bool.not_eq_false] at h1
      refine cw_skip ?_
      refine ex_then ?_
      refine cw_seq ?_
      refine cw_block ?_
      refine cw_seq ?_
      refine cw_region ?_
      obtain ⟨e26, he26⟩ := get_some (xs := ts) (i := i) (by omega)
      refine sq_r (ry_idxH rfl rfl i rfl (by omega)) ?_
      refine sq_r (ry_elemH rfl i he26 rfl) ?_
      refine sq_allocA fun b8 => ?_
      refine sq_storeW rfl rfl ?_
      refine sq_nil ?_
      refine ex_then ?_
      refine cw_seq ?_
      refine cw_seq ?_
      refine cw_region ?_
      refine sq_r (ry_field (o' := 0) rfl rfl) ?_
      refine sq_r (ry_field (o' := 0) rfl rfl) ?_
      refine sq_r (ry_cellc rfl) ?_
      refine sq_r (ry_move rfl) ?_
      refine sq_r (ry_int rfl rfl rfl) ?_
      refine sq_nil ?_
      refine ex_then ?_
      refine cw_cond rfl (fun h2 => ?_) (fun h2 => ?_)
      · try simp only [Bool.and_eq_true, Bool.or_eq_true, Bool.and_eq_false_iff, Bool.or_eq_false_iff, Bool.not_eq_true', Bool.not_eq_false', decide_eq_true_eq, decide_eq_false_iff_not, Bool.not_eq_true, Bool.not_eq_false] at h2
        refine cw_exit ?_
        refine ex_pass_exit ?_
        refine ex_block_hit ?_
        refine ex_then ?_
        refine cw_region ?_
        refine sq_r (ry_add rfl rfl (by omega)) ?_
        refine sq_r (ry_move rfl) ?_
        refine sq_nil ?_
        have tk : ts.take (i + 1) = ts.take i ++ [e26] := by obtain ⟨hl, rfl⟩ := List.getElem?_eq_some_iff.1 he26; exact List.take_succ_eq_append_getElem hl
        exact ex_again (x := (i, s1)) (i + 1, s1) ⟨by first | omega | (simp only []; omega), by rw [ways_take he26, addWs, if_neg h2]; exact hi2⟩ (by simp only; omega) (Sub.cons rfl (Sub.cons rfl (Sub.cons rfl (Sub.cons rfl (Sub.cons rfl (Sub.cons rfl (Sub.nil _))))))) (fun w hw => by rw [ways_take he26, addWs, if_neg h2, tk, nodes_skip h2]; exact Keep.mem hw)
      · try simp only [Bool.and_eq_true, Bool.or_eq_true, Bool.and_eq_false_iff, Bool.or_eq_false_iff, Bool.not_eq_true', Bool.not_eq_false', decide_eq_true_eq, decide_eq_false_iff_not, Bool.not_eq_true, Bool.not_eq_false] at h2
        have hme := tr_may hc.1 (List.mem_of_getElem? he26)
        have hWi : WOk (waysF bits (ts.take i)) := ways_ok fun x hx => tr_may hc.1 (List.mem_of_mem_take hx)
        refine cw_skip ?_
        refine ex_then ?_
        refine cw_seq ?_
        refine cw_region ?_
        refine sq_r (ry_whole rfl) ?_
        refine sq_callC rfl ⟨hme, h2, hWi, holds_ways i ts, hi2⟩ fun x34 hp34 => ?_
        refine sq_r (ry_not rfl) ?_
        refine sq_nil ?_
        refine ex_then ?_
        refine cw_cond rfl (fun h3 => ?_) (fun h3 => ?_)
        · try simp only [Bool.and_eq_true, Bool.or_eq_true, Bool.and_eq_false_iff, Bool.or_eq_false_iff, Bool.not_eq_true', Bool.not_eq_false', decide_eq_true_eq, decide_eq_false_iff_not, Bool.not_eq_true, Bool.not_eq_false] at h3
          have hno : ¬ (waysF bits ts).length ≤ 512 := fun h => by have h5 := (ways_mono (bits := bits) (t := ts) (show i + 1 ≤ ts.length by omega)).length_le; rw [List.take_length, ways_take he26, addWs, if_pos h2] at h5; omega
          obtain ⟨he1, he2, he3⟩ := buildE_full hc hno
          refine cw_seq ?_
          refine cw_region ?_
          refine sq_r (ry_buildc rfl) ?_
          refine sq_storeW rfl rfl ?_
          refine sq_r (ry_assign rfl) ?_
          refine sq_nil ?_
          refine ex_then ?_
          refine cw_ret ?_
          refine ex_block_ret ?_
          refine ex_pass_ret ?_
          refine ex_pass_ret ?_
          refine ex_block_ret ?_
          refine ex_pass_ret ?_
          refine ex_ret (.inl rfl) (res_2 rfl (rv_agg rfl) (rv_tmp rfl)) (fun w1 hw => ?_)
          exact ⟨(⟨0, ⟨Sv.none, []⟩⟩ : Tri), by rw [he1], ⟨he2.symm, he3.symm⟩, Mem.nilEnt (τ := Nd) (enc := ncells) (c := 48) (Keep.mem hw : Mem w [] _)⟩
        · try simp only [Bool.and_eq_true, Bool.or_eq_true, Bool.and_eq_false_iff, Bool.or_eq_false_iff, Bool.not_eq_true', Bool.not_eq_false', decide_eq_true_eq, decide_eq_false_iff_not, Bool.not_eq_true, Bool.not_eq_false] at h3
          refine cw_skip ?_
          refine ex_block ?_
          refine ex_then ?_
          refine cw_region ?_
          refine sq_r (ry_add rfl rfl (by omega)) ?_
          refine sq_r (ry_move rfl) ?_
          refine sq_nil ?_
          have tk : ts.take (i + 1) = ts.take i ++ [e26] := by obtain ⟨hl, rfl⟩ := List.getElem?_eq_some_iff.1 he26; exact List.take_succ_eq_append_getElem hl
          have hok := h3
          exact ex_again (x := (i, s1)) (i + 1, x34.1) ⟨by first | omega | (simp only []; omega), by rw [ways_take he26, addWs, if_pos h2]; exact hok⟩ (by simp only; omega) (Sub.cons rfl (Sub.cons rfl (Sub.cons rfl (Sub.cons rfl (Sub.cons rfl (Sub.cons rfl (Sub.nil _))))))) (fun w hw => by rw [ways_take he26, addWs, if_pos h2, tk, ← hp34 hok]; exact Keep.mem hw)
    · try simp only [Bool.and_eq_true, Bool.or_eq_true, Bool.and_eq_false_iff, Bool.or_eq_false_iff, Bool.not_eq_true', Bool.not_eq_false', decide_eq_true_eq, decide_eq_false_iff_not, Bool.not_eq_true, Bool.not_eq_false] at h1
      refine cw_exit ?_
      refine ex_pass_exit ?_
      refine ex_pass_exit ?_
      refine ex_block_hit ?_
      refine ex_then ?_
      refine cw_seq ?_
      refine cw_region ?_
      refine sq_r (ry_field (o' := 0) rfl rfl) ?_
      refine sq_r (ry_part rfl) ?_
      refine sq_storeW rfl rfl ?_
      refine sq_r (ry_assign rfl) ?_
      refine sq_nil ?_
      refine ex_then ?_
      refine cw_ret ?_
      refine ex_ret (.inl rfl) (res_2 rfl (rv_agg rfl) (rv_tmp rfl)) (fun w1 hw => ?_)
      obtain rfl : i = ts.length := by omega
      rw [List.take_length] at hi2 hw
      obtain ⟨he1, he2, he3⟩ := buildE_ok hc hi2
      exact ⟨⟨bits, ⟨s1, nodes bits (waysF bits ts) ts⟩⟩, by rw [he1]; rfl, ⟨he2.symm, he3.symm⟩, (Tr.shut_p (a := (⟨s1, nodes bits (waysF bits ts) ts⟩ : Sl Nd))).mem (Keep.mem hw)⟩
instance tbuild_i {w0 : World} {L : List Ent} {t : Sv} {ts : List Rt} {bits : Int} [ht : HdE w0 L rcells 19 t ts] : FnC Try.prog 49 w0 L [t.val, .int .i64 bits] (Tri) (fun zz => .tuple #[.agg (tcells zz), .int .i64 (buildE ts bits)]) (fun zz => Deep.ent zz :: L) (fun zz => zz.bits = buildB ts bits ∧ zz.ns.xs = buildN ts bits) (True) := ⟨fun hp w hw => (tbuild_c w t ts bits (ht.h w hw)).mono fun e w' ⟨x, h1, h2, h3⟩ => ⟨x, h1, h2, hw.call h3⟩⟩

end Go.Proofs.Ytajhlgdapiihgaa

/- Steps of a trie: walked. -/
set_option linter.unusedSimpArgs false
set_option linter.unusedVariables false
namespace Go.Proofs.Ytajhlgdapiihgaa
open Go.Eng Go.Kb
set_option maxRecDepth 20000 in
theorem tsteps_c (w : World) (t : Tri) (ht : Deep.good (hp w) t) : Calls Try.prog 134 #[.agg (tcells t)] w fun e w' => ∃ zz : Sv, e = .returned (zz.val) ∧ (zz.nil = (stepsV t.bits t.ns.xs).isNone) ∧ Mem w [own iec 1 zz ((stepsV t.bits t.ns.xs).getD [])] w' := by
  have ght : GvD w t := ⟨ht⟩
  have hbd := ht.1.bd
  refine calls_of (args := [_]) Try.func134 rfl Try.ntmps134 rfl ?_
  change Cw _ _ _ _ _ [(0, .agg (tcells t))] []
  refine cw_seq ?_
  refine cw_region ?_
  refine sq_boxA rfl fun b1 => ?_
  refine sq_r (ry_assign rfl) ?_
  refine sq_nil ?_
  refine ex_then ?_
  refine cw_seq ?_
  refine cw_seq ?_
  refine cw_region ?_
  refine sq_r (ry_field (o' := 0) rfl rfl) ?_
  refine sq_r (ry_cellc rfl) ?_
  refine sq_y (yl_callC rfl trivial) ?_
  refine sq_r (ry_not rfl) ?_
  refine sq_r (ry_move rfl) ?_
  refine sq_gf rfl rfl rfl (fun hg => (Ry.yl (ry_field (o' := 1) rfl rfl))) ?_
  refine sq_gf rfl rfl rfl (fun hg => (Ry.yl (ry_cellc (ev_c hg rfl)))) ?_
  refine sq_gf rfl rfl rfl (fun hg => (Ry.yl (ry_lenH (ev_c hg rfl)))) ?_
  refine sq_gf rfl rfl rfl (fun hg => (Ry.yl (ry_int (ev_c hg rfl) rfl rfl))) ?_
  refine sq_r (ry_or rfl rfl rfl) ?_
  refine sq_r (ry_move rfl) ?_
  refine sq_gf rfl rfl rfl (fun hg => (Ry.yl (ry_field (o' := 1) rfl rfl))) ?_
  refine sq_gf rfl rfl rfl (fun hg => (Ry.yl (ry_cellc (ev_c hg rfl)))) ?_
  refine sq_gf rfl rfl rfl (fun hg => (Ry.yl (ry_lenH (ev_c hg rfl)))) ?_
  refine sq_gf rfl rfl rfl (fun hg => (Ry.yl (ry_int (ev_c hg rfl) rfl rfl))) ?_
  refine sq_r (ry_or rfl rfl rfl) ?_
  refine sq_nil ?_
  refine ex_then ?_
  refine cw_cond rfl (fun h0 => ?_) (fun h0 => ?_)
  · try simp only [Bool.and_eq_true, Bool.or_eq_true, Bool.and_eq_false_iff, Bool.or_eq_false_iff, Bool.not_eq_true', Bool.not_eq_false', decide_eq_true_eq, decide_eq_false_iff_not, Bool.not_eq_true, Bool.not_eq_false] at h0
    have hv : stepsV t.bits t.ns.xs = none := by rw [stepsV, if_neg]; omega
    refine cw_seq ?_
    refine cw_region ?_
    refine sq_r (ry_assign rfl) ?_
    refine sq_nil ?_
    refine ex_then ?_
    refine cw_ret ?_
    refine ex_pass_ret ?_
    refine ex_ret (.inl rfl) (res_1 rfl (rv_tmp rfl)) (fun w1 hw => ?_)
    exact ⟨Sv.none, rfl, by rw [hv]; rfl, by rw [hv]; exact Mem.nilOwn iec 1 (Keep.mem hw : Mem w [] _)⟩
  · try simp only [Bool.and_eq_true, Bool.or_eq_true, Bool.and_eq_false_iff, Bool.or_eq_false_iff, Bool.not_eq_true', Bool.not_eq_false', decide_eq_true_eq, decide_eq_false_iff_not, Bool.not_eq_true, Bool.not_eq_false] at h0
    have hb : t.bits = 32 ∨ t.bits = 128 := by omega
    have hl1 : 1 ≤ t.ns.xs.length := by omega
    have hl2 : t.ns.xs.length ≤ 512 := by omega
    have hv0 : stepsV t.bits t.ns.xs = stepsN t.bits t.ns.xs t.ns.xs.length := by rw [stepsV, if_pos ⟨hb, hl1, hl2⟩]
    refine cw_skip ?_
    refine ex_then ?_
    refine cw_seq ?_
    refine cw_region ?_
    refine sq_r (ry_field (o' := 1) rfl rfl) ?_
    refine sq_r (ry_cellc rfl) ?_
    refine sq_r (ry_lenH rfl) ?_
    refine sq_makeS (enc := iec) (n := t.ns.xs.length) (cap := t.ns.xs.length) (0 : Int) rfl rfl rfl rfl rfl (by omega) (by omega) (by omega) fun b28 => ?_
    refine sq_r (ry_assign rfl) ?_
    refine sq_nil ?_
    refine ex_then ?_
    refine cw_seq ?_
    refine cw_region ?_
    refine sq_r (ry_move rfl) ?_
    obtain ⟨z, hz⟩ := get_some (xs := (List.replicate t.ns.xs.length (0 : Int))) (i := 0) (by simp; omega)
    refine sq_r (ry_idxH rfl rfl 0 rfl (by simp; omega)) ?_
    refine sq_stI rfl rfl hz rfl ?_
    refine sq_nil ?_
    refine ex_then ?_
    refine cw_seq ?_
    refine cw_seq ?_
    refine cw_region ?_
    refine sq_r (ry_field (o' := 1) rfl rfl) ?_
    refine sq_r (ry_cellc rfl) ?_
    refine sq_r (ry_lenH rfl) ?_
    refine sq_r (ry_move rfl) ?_
    refine sq_nil ?_
    refine ex_then ?_
    refine cw_block ?_
    refine cw_loop (X := Nat × List Int) (fun zz => [(34, .int .i64 (zz.1 : Nat)), (3, (⟨false, b28, 0, t.ns.xs.length, t.ns.xs.length, none⟩ : Sv).val), (1, .pointer (some ⟨b1, 0, none⟩)), (32, t.ns.sv.val), (33, .int .i64 (t.ns.xs.length : Nat))]) (fun zz => [own iec 1 ⟨false, b28, 0, t.ns.xs.length, t.ns.xs.length, none⟩ zz.2, blk b1 (tcells t) 76]) (fun zz => zz.1 ≤ t.ns.xs.length ∧ stepsN t.bits t.ns.xs zz.1 = some zz.2 ∧ zz.2.length = t.ns.xs.length ∧ (∀ y ∈ zz.2, 0 ≤ y ∧ y ≤ 33)) (fun zz => t.ns.xs.length - zz.1) (0, (List.replicate t.ns.xs.length 0).set 0 1) ⟨Nat.zero_le _, rfl, by simp, fun y hy => by rcases List.mem_or_eq_of_mem_set hy with h | h; rw [List.eq_of_mem_replicate h]; omega; omega⟩ (Sub.cons rfl (Sub.cons rfl (Sub.cons rfl (Sub.cons rfl (Sub.cons rfl (Sub.nil _)))))) (fun w hw => Keep.mem hw) ?_
    rintro ⟨i, a⟩ ⟨hi, hs, ha, hy⟩
    dsimp only
    simp only at hi hs ha hy
    refine cw_seq ?_
    refine cw_region ?_
    refine sq_r (ry_int rfl rfl rfl) ?_
    refine sq_nil ?_
    refine ex_then ?_
    refine cw_seq ?_
    refine cw_cond rfl (fun h1 => ?_) (fun h1 => ?_)
    · try simp only [Bool.and_eq_true, Bool.or_eq_true, Bool.and_eq_false_iff, Bool.or_eq_false_iff, Bool.not_eq_true', Bool.not_eq_false', decide_eq_true_eq, decide_eq_false_iff_not, Bool.not_eq_true, Bool.not_eq_false] at h1
      refine cw_skip ?_
      refine ex_then ?_
      refine cw_seq ?_
      refine cw_block ?_
      refine cw_seq ?_
      refine cw_region ?_
      refine sq_r (ry_move rfl) ?_
      obtain ⟨n, hn⟩ := get_some (xs := t.ns.xs) (i := i) (by omega)
      refine sq_r (ry_idxH rfl rfl i rfl (by omega)) ?_
      refine sq_r (ry_elemH rfl i hn rfl) ?_
      refine sq_allocA fun b5 => ?_
      refine sq_r (ry_assign rfl) ?_
      refine sq_storeW rfl rfl ?_
      refine sq_nil ?_
      refine ex_then ?_
      refine cw_seq ?_
      refine cw_seq ?_
      refine cw_quiet (by kernel_rfl) (by kernel_rfl) ?_
      refine qt_r (ry_move rfl) ?_
      refine qt_r (ry_move rfl) ?_
      obtain ⟨x, hx⟩ := get_some (xs := a) (i := i) (by omega)
      refine qt_r (ry_idxH rfl rfl i rfl (by omega)) ?_
      have hxr := hy x (List.mem_of_getElem? hx)
      refine qt_r (ry_elemcH (j := 0) rfl i hx rfl (by decide)) ?_
      refine qt_r (ry_int rfl rfl rfl) ?_
      refine qt_r (ry_move rfl) ?_
      refine qt_gf rfl rfl rfl (fun hg => (Ry.yl (ry_move rfl))) ?_
      refine qt_gf rfl rfl rfl (fun hg => (Ry.yl (ry_move rfl))) ?_
      refine qt_gf rfl rfl rfl (fun hg => (Ry.yl (ry_idxH (ev_c hg rfl) (ev_c hg rfl) i rfl (by omega)))) ?_
      refine qt_gf rfl rfl rfl (fun hg => (Ry.yl (ry_elemcH (j := 0) (ev_c hg rfl) i hx rfl (by decide)))) ?_
      refine qt_gf rfl rfl rfl (fun hg => (Ry.yl (ry_field (o' := 0) rfl rfl))) ?_
      refine qt_gf rfl rfl rfl (fun hg => (Ry.yl (ry_cellc (ev_c hg rfl)))) ?_
      refine qt_gf rfl rfl rfl (fun hg => (Ry.yl (ry_quo (ev_c hg rfl) rfl (by simp only [Bool.and_eq_true, Bool.or_eq_true, Bool.and_eq_false_iff, Bool.or_eq_false_iff, Bool.not_eq_true', Bool.not_eq_false', decide_eq_true_eq, decide_eq_false_iff_not, Bool.not_eq_true, Bool.not_eq_false] at hg; omega) (by simp only [Bool.and_eq_true, Bool.or_eq_true, Bool.and_eq_false_iff, Bool.or_eq_false_iff, Bool.not_eq_true', Bool.not_eq_false', decide_eq_true_eq, decide_eq_false_iff_not, Bool.not_eq_true, Bool.not_eq_false] at hg; omega)))) ?_
      refine qt_gf rfl rfl rfl (fun hg => (Ry.yl (ry_int (ev_c hg rfl) (ev_c hg rfl) rfl))) ?_
      refine qt_r (ry_or rfl rfl rfl) ?_
      refine qt_nil ?_
      refine ex_then ?_
      refine cw_cond rfl (fun h2 => ?_) (fun h2 => ?_)
      · try simp only [Bool.and_eq_true, Bool.or_eq_true, Bool.and_eq_false_iff, Bool.or_eq_false_iff, Bool.not_eq_true', Bool.not_eq_false', decide_eq_true_eq, decide_eq_false_iff_not, Bool.not_eq_true, Bool.not_eq_false] at h2
        have hv := stepsV_bad (by omega) hs (by rw [getD_some hx]; omega)
        refine cw_seq ?_
        refine cw_region ?_
        refine sq_r (ry_assign rfl) ?_
        refine sq_nil ?_
        refine ex_then ?_
        refine cw_ret ?_
        refine ex_pass_ret ?_
        refine ex_block_ret ?_
        refine ex_pass_ret ?_
        refine ex_pass_ret ?_
        refine ex_block_ret ?_
        refine ex_pass_ret ?_
        refine ex_ret (.inl rfl) (res_1 rfl (rv_tmp rfl)) (fun w1 hw => ?_)
        exact ⟨Sv.none, rfl, by rw [hv]; rfl, by rw [hv]; exact Mem.nilOwn iec 1 (Keep.mem hw : Mem w [] _)⟩
      · try simp only [Bool.and_eq_true, Bool.or_eq_true, Bool.and_eq_false_iff, Bool.or_eq_false_iff, Bool.not_eq_true', Bool.not_eq_false', decide_eq_true_eq, decide_eq_false_iff_not, Bool.not_eq_true, Bool.not_eq_false] at h2
        have hxn : ¬ (a.getD i 0 = 0 ∨ t.bits / 4 < a.getD i 0) := by rw [getD_some hx]; omega
        refine cw_skip ?_
        refine ex_then ?_
        refine cw_seq ?_
        refine cw_region ?_
        refine sq_r (ry_move rfl) ?_
        refine sq_nil ?_
        refine ex_then ?_
        refine cw_block ?_
        refine cw_loop (X := Nat × List Int) (fun zz => [(54, .int .i64 (zz.1 : Nat)), (3, (⟨false, b28, 0, t.ns.xs.length, t.ns.xs.length, none⟩ : Sv).val), (1, .pointer (some ⟨b1, 0, none⟩)), (4, .int .i64 (i : Nat)), (5, .pointer (some ⟨b5, 0, none⟩)), (32, t.ns.sv.val), (33, .int .i64 (t.ns.xs.length : Nat)), (34, .int .i64 (i : Nat))]) (fun zz => [own iec 1 ⟨false, b28, 0, t.ns.xs.length, t.ns.xs.length, none⟩ zz.2, blk b5 (ncells n) 160, blk b1 (tcells t) 76]) (fun zz => zz.1 ≤ 16 ∧ stepsB t.ns.xs.length i n zz.1 a = some zz.2 ∧ zz.2.length = t.ns.xs.length ∧ (∀ y ∈ zz.2, 0 ≤ y ∧ y ≤ 33) ∧ zz.2[i]? = some x) (fun zz => 16 - zz.1) (0, a) ⟨by first | omega | (simp only []; omega), rfl, ha, hy, hx⟩ (Sub.cons rfl (Sub.cons rfl (Sub.cons rfl (Sub.cons rfl (Sub.cons rfl (Sub.cons rfl (Sub.cons rfl (Sub.cons rfl (Sub.nil _))))))))) (fun w hw => Keep.mem hw) ?_
        rintro ⟨b, a2⟩ ⟨hb2, hs2, ha2, hy2, hx2⟩
        dsimp only
        simp only at hb2 hs2 ha2 hy2 hx2
        refine cw_seq ?_
        refine cw_region ?_
        refine sq_r (ry_int rfl rfl rfl) ?_
        refine sq_nil ?_
        refine ex_then ?_
        refine cw_seq ?_
        refine cw_cond rfl (fun h3 => ?_) (fun h3 => ?_)
        · try simp only [Bool.and_eq_true, Bool.or_eq_true, Bool.and_eq_false_iff, Bool.or_eq_false_iff, Bool.not_eq_true', Bool.not_eq_false', decide_eq_true_eq, decide_eq_false_iff_not, Bool.not_eq_true, Bool.not_eq_false] at h3
          refine cw_skip ?_
          refine ex_then ?_
          refine cw_seq ?_
          refine cw_block ?_
          refine cw_seq ?_
          refine cw_region ?_
          refine sq_r (ry_move rfl) ?_
          refine sq_r (ry_assign rfl) ?_
          refine sq_nil ?_
          refine ex_then ?_
          refine cw_seq ?_
          refine cw_seq ?_
          refine cw_region ?_
          refine sq_r (ry_move rfl) ?_
          refine sq_r (ry_field (o' := 0) rfl rfl) ?_
          refine sq_r (ry_idxA rfl rfl (by omega) (by omega)) ?_
          refine sq_r (ry_field rfl rfl) ?_
          refine sq_r (ry_bslen rfl b (by omega) (by simp only [Nat.add_eq, Int.toNat_natCast, Nat.mul_one, Nat.zero_add, Nat.add_zero] <;> omega)) ?_
          refine sq_r (ry_assign rfl) ?_
          refine sq_nil ?_
          refine ex_then ?_
          refine cw_seq ?_
          refine cw_region ?_
          refine sq_r (ry_move rfl) ?_
          refine sq_r (ry_int rfl rfl rfl) ?_
          refine sq_r (ry_move rfl) ?_
          refine sq_gf rfl rfl rfl (fun hg => (Ry.yl (ry_move rfl))) ?_
          refine sq_gf rfl rfl rfl (fun hg => (Ry.yl (ry_move rfl))) ?_
          refine sq_gf rfl rfl rfl (fun hg => (Ry.yl (ry_move rfl))) ?_
          refine sq_gf rfl rfl rfl (fun hg => (Ry.yl (ry_idxH (ev_c hg rfl) (ev_c hg rfl) i rfl (by omega)))) ?_
          refine sq_gf rfl rfl rfl (fun hg => (Ry.yl (ry_elemcH (j := 0) (ev_c hg rfl) i hx2 rfl (by decide)))) ?_
          refine sq_gf rfl rfl rfl (fun hg => (Ry.yl (ry_mul rfl (ev_c hg rfl) (by simp only [Bool.and_eq_true, Bool.or_eq_true, Bool.and_eq_false_iff, Bool.or_eq_false_iff, Bool.not_eq_true', Bool.not_eq_false', decide_eq_true_eq, decide_eq_false_iff_not, Bool.not_eq_true, Bool.not_eq_false] at hg; omega)))) ?_
          refine sq_gf rfl rfl rfl (fun hg => (Ry.yl (ry_add (ev_c hg rfl) rfl (by simp only [Bool.and_eq_true, Bool.or_eq_true, Bool.and_eq_false_iff, Bool.or_eq_false_iff, Bool.not_eq_true', Bool.not_eq_false', decide_eq_true_eq, decide_eq_false_iff_not, Bool.not_eq_true, Bool.not_eq_false] at hg; omega)))) ?_
          refine sq_gf rfl rfl rfl (fun hg => (Ry.yl (ry_int (ev_c hg rfl) (ev_c hg rfl) rfl))) ?_
          refine sq_r (ry_or rfl rfl rfl) ?_
          refine sq_nil ?_
          refine ex_then ?_
          refine cw_cond rfl (fun h4 => ?_) (fun h4 => ?_)
          · try simp only [Bool.and_eq_true, Bool.or_eq_true, Bool.and_eq_false_iff, Bool.or_eq_false_iff, Bool.not_eq_true', Bool.not_eq_false', decide_eq_true_eq, decide_eq_false_iff_not, Bool.not_eq_true, Bool.not_eq_false] at h4
            have hv := stepsV_bad2 (by omega) hs hn (b := b) (by omega) hs2 (by rw [stepOne, getD_some hx2, if_pos (by omega)])
            refine cw_seq ?_
            refine cw_region ?_
            refine sq_r (ry_assign rfl) ?_
            refine sq_nil ?_
            refine ex_then ?_
            refine cw_ret ?_
            refine ex_pass_ret ?_
            refine ex_block_ret ?_
            refine ex_pass_ret ?_
            refine ex_pass_ret ?_
            refine ex_block_ret ?_
            refine ex_block_ret ?_
            refine ex_pass_ret ?_
            refine ex_pass_ret ?_
            refine ex_block_ret ?_
            refine ex_pass_ret ?_
            refine ex_ret (.inl rfl) (res_1 rfl (rv_tmp rfl)) (fun w1 hw => ?_)
            exact ⟨Sv.none, rfl, by rw [hv]; rfl, by rw [hv]; exact Mem.nilOwn iec 1 (Keep.mem hw : Mem w [] _)⟩
          · try simp only [Bool.and_eq_true, Bool.or_eq_true, Bool.and_eq_false_iff, Bool.or_eq_false_iff, Bool.not_eq_true', Bool.not_eq_false', decide_eq_true_eq, decide_eq_false_iff_not, Bool.not_eq_true, Bool.not_eq_false] at h4
            refine cw_skip ?_
            refine ex_then ?_
            refine cw_seq ?_
            refine cw_region ?_
            refine sq_r (ry_move rfl) ?_
            refine sq_r (ry_field (o' := 32) rfl rfl) ?_
            refine sq_r (ry_idxA rfl rfl (by omega) (by omega)) ?_
            refine sq_r (ry_bnx rfl b (by omega) (by simp only [Nat.add_eq, Int.toNat_natCast, Nat.mul_one, Nat.zero_add, Nat.add_zero] <;> omega)) ?_
            refine sq_r (ry_assign rfl) ?_
            refine sq_nil ?_
            refine ex_then ?_
            refine cw_seq ?_
            refine cw_seq ?_
            refine cw_region ?_
            refine sq_r (ry_move rfl) ?_
            refine sq_r (ry_int rfl rfl rfl) ?_
            refine sq_nil ?_
            refine ex_then ?_
            refine cw_cond rfl (fun h5 => ?_) (fun h5 => ?_)
            · try simp only [Bool.and_eq_true, Bool.or_eq_true, Bool.and_eq_false_iff, Bool.or_eq_false_iff, Bool.not_eq_true', Bool.not_eq_false', decide_eq_true_eq, decide_eq_false_iff_not, Bool.not_eq_true, Bool.not_eq_false] at h5
              have ho : stepOne t.ns.xs.length i n b a2 = some a2 := by rw [stepOne, getD_some hx2, if_neg (by omega), if_pos h5]
              refine cw_exit ?_
              refine ex_pass_exit ?_
              refine ex_block_hit ?_
              refine ex_then ?_
              refine cw_region ?_
              refine sq_r (ry_add rfl rfl (by omega)) ?_
              refine sq_r (ry_move rfl) ?_
              refine sq_nil ?_
              exact ex_again (x := (b, a2)) (b + 1, a2) ⟨by first | omega | (simp only []; omega), by rw [stepsB, hs2, Option.bind_some, ho], ha2, hy2, hx2⟩ (by simp only; omega) (Sub.cons rfl (Sub.cons rfl (Sub.cons rfl (Sub.cons rfl (Sub.cons rfl (Sub.cons rfl (Sub.cons rfl (Sub.cons rfl (Sub.nil _))))))))) (fun w hw => Keep.mem hw)
            · try simp only [Bool.and_eq_true, Bool.or_eq_true, Bool.and_eq_false_iff, Bool.or_eq_false_iff, Bool.not_eq_true', Bool.not_eq_false', decide_eq_true_eq, decide_eq_false_iff_not, Bool.not_eq_true, Bool.not_eq_false] at h5
              refine cw_skip ?_
              refine ex_then ?_
              refine cw_seq ?_
              refine cw_seq ?_
              refine cw_region ?_
              refine sq_r (ry_move rfl) ?_
              refine sq_r (ry_move rfl) ?_
              refine sq_r (ry_int rfl rfl rfl) ?_
              refine sq_r (ry_move rfl) ?_
              refine sq_gf rfl rfl rfl (fun hg => (Ry.yl (ry_move rfl))) ?_
              refine sq_gf rfl rfl rfl (fun hg => (Ry.yl (ry_field (o' := 1) rfl rfl))) ?_
              refine sq_gf rfl rfl rfl (fun hg => (Ry.yl (ry_cellc (ev_c hg rfl)))) ?_
              refine sq_gf rfl rfl rfl (fun hg => (Ry.yl (ry_lenH (ev_c hg rfl)))) ?_
              refine sq_gf rfl rfl rfl (fun hg => (Ry.yl (ry_int (ev_c hg rfl) (ev_c hg rfl) rfl))) ?_
              refine sq_r (ry_or rfl rfl rfl) ?_
              refine sq_r (ry_move rfl) ?_
              refine sq_gf rfl rfl rfl (fun hg => (Ry.yl (ry_move rfl))) ?_
              refine sq_gf rfl rfl rfl (fun hg => (Ry.yl (ry_move rfl))) ?_
              refine sq_gf rfl rfl rfl (fun hg => (Ry.yl (ry_idxH (ev_c hg rfl) (ev_c hg rfl) ((n.nx b).toNat) (by simp only [Bool.and_eq_true, Bool.or_eq_true, Bool.and_eq_false_iff, Bool.or_eq_false_iff, Bool.not_eq_true', Bool.not_eq_false', decide_eq_true_eq, decide_eq_false_iff_not, Bool.not_eq_true, Bool.not_eq_false] at hg; omega) (by simp only [Bool.and_eq_true, Bool.or_eq_true, Bool.and_eq_false_iff, Bool.or_eq_false_iff, Bool.not_eq_true', Bool.not_eq_false', decide_eq_true_eq, decide_eq_false_iff_not, Bool.not_eq_true, Bool.not_eq_false] at hg; omega)))) ?_
              refine sq_gf rfl rfl rfl (fun hg => (Ry.yl (ry_elemcH (j := 0) (ev_c hg rfl) ((n.nx b).toNat) (get_getD (xs := a2) (i := (n.nx b).toNat) (d := (0 : Int)) (by simp only [Bool.and_eq_true, Bool.or_eq_true, Bool.and_eq_false_iff, Bool.or_eq_false_iff, Bool.not_eq_true', Bool.not_eq_false', decide_eq_true_eq, decide_eq_false_iff_not, Bool.not_eq_true, Bool.not_eq_false] at hg; omega)) rfl (by decide)))) ?_
              refine sq_gf rfl rfl rfl (fun hg => (Ry.yl (ry_int (ev_c hg rfl) rfl rfl))) ?_
              refine sq_r (ry_or rfl rfl rfl) ?_
              refine sq_nil ?_
              refine ex_then ?_
              refine cw_cond rfl (fun h6 => ?_) (fun h6 => ?_)
              · try simp only [Bool.and_eq_true, Bool.or_eq_true, Bool.and_eq_false_iff, Bool.or_eq_false_iff, Bool.not_eq_true', Bool.not_eq_false', decide_eq_true_eq, decide_eq_false_iff_not, Bool.not_eq_true, Bool.not_eq_false] at h6
                have hv := stepsV_bad2 (by omega) hs hn (b := b) (by omega) hs2 (by rw [stepOne, getD_some hx2, if_neg (by omega), if_neg h5, if_pos (by omega)])
                refine cw_seq ?_
                refine cw_region ?_
                refine sq_r (ry_assign rfl) ?_
                refine sq_nil ?_
                refine ex_then ?_
                refine cw_ret ?_
                refine ex_pass_ret ?_
                refine ex_block_ret ?_
                refine ex_pass_ret ?_
                refine ex_pass_ret ?_
                refine ex_block_ret ?_
                refine ex_block_ret ?_
                refine ex_pass_ret ?_
                refine ex_pass_ret ?_
                refine ex_block_ret ?_
                refine ex_pass_ret ?_
                refine ex_ret (.inl rfl) (res_1 rfl (rv_tmp rfl)) (fun w1 hw => ?_)
                exact ⟨Sv.none, rfl, by rw [hv]; rfl, by rw [hv]; exact Mem.nilOwn iec 1 (Keep.mem hw : Mem w [] _)⟩
              · try simp only [Bool.and_eq_true, Bool.or_eq_true, Bool.and_eq_false_iff, Bool.or_eq_false_iff, Bool.not_eq_true', Bool.not_eq_false', decide_eq_true_eq, decide_eq_false_iff_not, Bool.not_eq_true, Bool.not_eq_false] at h6
                have ho : stepOne t.ns.xs.length i n b a2 = some (a2.set (n.nx b).toNat (x + 1)) := by rw [stepOne, getD_some hx2, if_neg (by omega), if_neg h5, if_neg (by omega)]
                refine cw_skip ?_
                refine ex_then ?_
                refine cw_region ?_
                refine sq_r (ry_move rfl) ?_
                refine sq_r (ry_move rfl) ?_
                refine sq_r (ry_move rfl) ?_
                refine sq_r (ry_move rfl) ?_
                refine sq_r (ry_idxH rfl rfl i rfl (by omega)) ?_
                refine sq_r (ry_elemcH (j := 0) rfl i hx2 rfl (by decide)) ?_
                refine sq_r (ry_add rfl rfl (by omega)) ?_
                obtain ⟨e104, he104⟩ := get_some (xs := a2) (i := (n.nx b).toNat) (by omega)
                refine sq_r (ry_idxH rfl rfl ((n.nx b).toNat) (by omega) (by omega)) ?_
                refine sq_stI rfl rfl he104 rfl ?_
                refine sq_nil ?_
                refine ex_block ?_
                refine ex_then ?_
                refine cw_region ?_
                refine sq_r (ry_add rfl rfl (by omega)) ?_
                refine sq_r (ry_move rfl) ?_
                refine sq_nil ?_
                exact ex_again (x := (b, a2)) (b + 1, _) ⟨by first | omega | (simp only []; omega), by rw [stepsB, hs2, Option.bind_some, ho], by simp [ha2], fun y hy' => by rcases List.mem_or_eq_of_mem_set hy' with h | h; exact hy2 y h; omega, by rw [List.getElem?_set_ne (by first | omega | (simp only []; omega))]; exact hx2⟩ (by simp only; omega) (Sub.cons rfl (Sub.cons rfl (Sub.cons rfl (Sub.cons rfl (Sub.cons rfl (Sub.cons rfl (Sub.cons rfl (Sub.cons rfl (Sub.nil _))))))))) (fun w hw => Keep.mem hw)
        · try simp only [Bool.and_eq_true, Bool.or_eq_true, Bool.and_eq_false_iff, Bool.or_eq_false_iff, Bool.not_eq_true', Bool.not_eq_false', decide_eq_true_eq, decide_eq_false_iff_not, Bool.not_eq_true, Bool.not_eq_false] at h3
          obtain rfl : b = 16 := by omega
          refine cw_exit ?_
          refine ex_pass_exit ?_
          refine ex_pass_exit ?_
          refine ex_block_hit ?_
          refine ex_block ?_
          refine ex_then ?_
          refine cw_region ?_
          refine sq_r (ry_add rfl rfl (by omega)) ?_
          refine sq_r (ry_move rfl) ?_
          refine sq_nil ?_
          exact ex_again (x := (i, a)) (i + 1, a2) ⟨by first | omega | (simp only []; omega), stepsN_next hs hn hxn hs2, ha2, hy2⟩ (by simp only; omega) (Sub.cons rfl (Sub.cons rfl (Sub.cons rfl (Sub.cons rfl (Sub.cons rfl (Sub.nil _)))))) (fun w hw => Keep.mem hw)
    · try simp only [Bool.and_eq_true, Bool.or_eq_true, Bool.and_eq_false_iff, Bool.or_eq_false_iff, Bool.not_eq_true', Bool.not_eq_false', decide_eq_true_eq, decide_eq_false_iff_not, Bool.not_eq_true, Bool.not_eq_false] at h1
      refine cw_exit ?_
      refine ex_pass_exit ?_
      refine ex_pass_exit ?_
      refine ex_block_hit ?_
      refine ex_then ?_
      refine cw_seq ?_
      refine cw_region ?_
      refine sq_r (ry_move rfl) ?_
      refine sq_r (ry_assign rfl) ?_
      refine sq_nil ?_
      refine ex_then ?_
      refine cw_ret ?_
      refine ex_ret (.inl rfl) (res_1 rfl (rv_tmp rfl)) (fun w1 hw => ?_)
      obtain rfl : i = t.ns.xs.length := by omega
      exact ⟨⟨false, b28, 0, t.ns.xs.length, t.ns.xs.length, none⟩, rfl, by rw [hv0, hs]; rfl, by rw [hv0, hs]; exact (Keep.mem hw : Mem w [own iec 1 ⟨false, b28, 0, t.ns.xs.length, t.ns.xs.length, none⟩ a] _)⟩
instance tsteps_i {w0 : World} {L : List Ent} {t : Tri} [ht : HdD w0 L t] : FnC Try.prog 134 w0 L [.agg (tcells t)] (Sv) (fun zz => zz.val) (fun zz => own iec 1 zz ((stepsV t.bits t.ns.xs).getD []) :: L) (fun zz => zz.nil = (stepsV t.bits t.ns.xs).isNone) (True) := ⟨fun hp w hw => (tsteps_c w t (ht.h w hw)).mono fun e w' ⟨x, h1, h2, h3⟩ => ⟨x, h1, h2, hw.call h3⟩⟩

end Go.Proofs.Ytajhlgdapiihgaa

/- A trie in use: walked. -/
set_option linter.unusedSimpArgs false
set_option linter.unusedVariables false
namespace Go.Proofs.Ytajhlgdapiihgaa
open Go.Eng Go.Kb
set_option maxRecDepth 20000 in
theorem tright_c (w : World) (t : Tri) (ht : Deep.good (hp w) t) : Calls Try.prog 94 #[.agg (tcells t)] w fun e w' => e = .returned (.bool ((stepsV t.bits t.ns.xs).isSome)) ∧ Mem w [] w' := by
  have ght : GvD w t := ⟨ht⟩
  refine calls_of (args := [_]) Try.func94 rfl Try.ntmps94 rfl ?_
  change Cw _ _ _ _ _ [(0, .agg (tcells t))] []
  refine cw_seq ?_
  refine cw_region ?_
  refine sq_boxA rfl fun b1 => ?_
  refine sq_r (ry_assign rfl) ?_
  refine sq_nil ?_
  refine ex_then ?_
  refine cw_seq ?_
  refine cw_region ?_
  refine sq_r (ry_whole rfl) ?_
  refine sq_callC rfl trivial fun x4 hp4 => ?_
  refine sq_r (ry_someS Try.underlying104 rfl) ?_
  refine sq_r (ry_assign rfl) ?_
  refine sq_nil ?_
  refine ex_then ?_
  refine cw_ret ?_
  refine ex_ret (.inl rfl) (res_1 rfl (rv_tmp rfl)) (fun w1 hw => ?_)
  exact ⟨congrArg (fun b => Ending.returned (Value.bool b)) (by rw [hp4]; cases stepsV t.bits t.ns.xs <;> rfl), Keep.mem hw⟩
instance tright_i {w0 : World} {L : List Ent} {t : Tri} [ht : HdD w0 L t] : FnQ Try.prog 94 w0 L [.agg (tcells t)] (.bool ((stepsV t.bits t.ns.xs).isSome)) (True) := ⟨fun hp w hw => tright_c w t (ht.h w hw)⟩
set_option maxRecDepth 20000 in
theorem tdeep_c (w : World) (t : Tri) (ht : Deep.good (hp w) t) : Calls Try.prog 95 #[.agg (tcells t)] w fun e w' => e = .returned (.int .i64 (deepV t.bits t.ns.xs)) ∧ Mem w [] w' := by
  have ght : GvD w t := ⟨ht⟩
  refine calls_of (args := [_]) Try.func95 rfl Try.ntmps95 rfl ?_
  change Cw _ _ _ _ _ [(0, .agg (tcells t))] []
  refine cw_seq ?_
  refine cw_region ?_
  refine sq_boxA rfl fun b1 => ?_
  refine sq_r (ry_assign rfl) ?_
  refine sq_nil ?_
  refine ex_then ?_
  refine cw_seq ?_
  refine cw_region ?_
  refine sq_r (ry_assign rfl) ?_
  refine sq_nil ?_
  refine ex_then ?_
  refine cw_seq ?_
  refine cw_seq ?_
  refine cw_region ?_
  refine sq_r (ry_whole rfl) ?_
  refine sq_callC rfl trivial fun x7 hp7 => ?_
  refine sq_r (ry_lenH rfl) ?_
  refine sq_r (ry_move rfl) ?_
  refine sq_nil ?_
  refine ex_then ?_
  refine cw_block ?_
  refine cw_bd x7 fun hbd => ?_
  refine cw_loop (X := Nat) (fun zz => [(9, .int .i64 (zz : Nat)), (3, .int .i64 ((((stepsV t.bits t.ns.xs).getD []).take zz).foldl max 0)), (7, x7.val), (8, .int .i64 (((stepsV t.bits t.ns.xs).getD []).length : Nat))]) (fun zz => [own iec 1 x7 ((stepsV t.bits t.ns.xs).getD []), blk b1 (tcells t) 76]) (fun zz => zz ≤ ((stepsV t.bits t.ns.xs).getD []).length) (fun zz => ((stepsV t.bits t.ns.xs).getD []).length - zz) 0 (Nat.zero_le _) (Sub.cons rfl (Sub.cons rfl (Sub.cons rfl (Sub.cons rfl (Sub.nil _))))) (fun w hw => Keep.mem hw) ?_
  rintro i hI
  refine cw_seq ?_
  refine cw_region ?_
  refine sq_r (ry_int rfl rfl rfl) ?_
  refine sq_nil ?_
  refine ex_then ?_
  refine cw_seq ?_
  refine cw_cond rfl (fun h0 => ?_) (fun h0 => ?_)
  · try simp only [Bool.and_eq_true, Bool.or_eq_true, Bool.and_eq_false_iff, Bool.or_eq_false_iff, Bool.not_eq_true', Bool.not_eq_false', decide_eq_true_eq, decide_eq_false_iff_not, Bool.not_eq_true, Bool.not_eq_false] at h0
    refine cw_skip ?_
    refine ex_then ?_
    refine cw_seq ?_
    refine cw_block ?_
    refine cw_seq ?_
    refine cw_region ?_
    obtain ⟨e11, he11⟩ := get_some (xs := ((stepsV t.bits t.ns.xs).getD [])) (i := i) (by omega)
    refine sq_r (ry_idxH rfl rfl i rfl (by omega)) ?_
    refine sq_r (ry_elemcH (j := 0) rfl i he11 rfl (by decide)) ?_
    refine sq_r (ry_assign rfl) ?_
    refine sq_nil ?_
    refine ex_then ?_
    refine cw_region ?_
    refine sq_r (ry_move rfl) ?_
    refine sq_r (ry_move rfl) ?_
    refine sq_r (ry_max rfl rfl) ?_
    refine sq_r (ry_assign rfl) ?_
    refine sq_nil ?_
    refine ex_block ?_
    refine ex_then ?_
    refine cw_region ?_
    refine sq_r (ry_add rfl rfl (by omega)) ?_
    refine sq_r (ry_move rfl) ?_
    refine sq_nil ?_
    have tk : ((stepsV t.bits t.ns.xs).getD []).take (i + 1) = ((stepsV t.bits t.ns.xs).getD []).take i ++ [e11] := by obtain ⟨hl, rfl⟩ := List.getElem?_eq_some_iff.1 he11; exact List.take_succ_eq_append_getElem hl
    exact ex_again (x := (i)) (i + 1) (by first | omega | (simp only []; omega)) (by first | omega | (simp only []; omega)) (Sub.cons rfl (Sub.cons (look_eq rfl (by rw [tk, List.foldl_append]; rfl)) (Sub.cons rfl (Sub.cons rfl (Sub.nil _))))) (fun w hw => Keep.mem hw)
  · try simp only [Bool.and_eq_true, Bool.or_eq_true, Bool.and_eq_false_iff, Bool.or_eq_false_iff, Bool.not_eq_true', Bool.not_eq_false', decide_eq_true_eq, decide_eq_false_iff_not, Bool.not_eq_true, Bool.not_eq_false] at h0
    refine cw_exit ?_
    refine ex_pass_exit ?_
    refine ex_pass_exit ?_
    refine ex_block_hit ?_
    refine ex_then ?_
    refine cw_seq ?_
    refine cw_region ?_
    refine sq_r (ry_move rfl) ?_
    refine sq_r (ry_assign rfl) ?_
    refine sq_nil ?_
    refine ex_then ?_
    refine cw_ret ?_
    refine ex_ret (.inl rfl) (res_1 rfl (rv_tmp rfl)) (fun w1 hw => ?_)
    exact ⟨congrArg (fun b => Ending.returned (Value.int .i64 b)) (by obtain rfl : i = ((stepsV t.bits t.ns.xs).getD []).length := (by omega); rw [List.take_length]; rfl), Keep.mem hw⟩
instance tdeep_i {w0 : World} {L : List Ent} {t : Tri} [ht : HdD w0 L t] : FnQ Try.prog 95 w0 L [.agg (tcells t)] (.int .i64 (deepV t.bits t.ns.xs)) (True) := ⟨fun hp w hw => tdeep_c w t (ht.h w hw)⟩
set_option maxRecDepth 20000 in
theorem twalk_c (w : World) (t : Tri) (k : Key) (ht : Deep.good (hp w) t) : Calls Try.prog 67 #[.agg (tcells t), .agg (kcells k)] w fun e w' => ∃ zz : Sv, e = .returned (zz.val) ∧ (True) ∧ Mem w [own iec 1 zz (walkV t.bits t.ns.xs k)] w' := by
  have ght : GvD w t := ⟨ht⟩
  refine calls_of (args := [_, _]) Try.func67 rfl Try.ntmps67 rfl ?_
  change Cw _ _ _ _ _ [(0, .agg (tcells t)), (1, .agg (kcells k))] []
  refine cw_seq ?_
  refine cw_region ?_
  refine sq_boxA rfl fun b2 => ?_
  refine sq_boxA rfl fun b3 => ?_
  refine sq_r (ry_assign rfl) ?_
  refine sq_nil ?_
  refine ex_then ?_
  refine cw_seq ?_
  refine cw_seq ?_
  refine cw_quiet (by kernel_rfl) (by kernel_rfl) ?_
  refine qt_r (ry_whole rfl) ?_
  refine qt_y (yl_callC rfl trivial) ?_
  refine qt_r (ry_not rfl) ?_
  refine qt_r (ry_move rfl) ?_
  refine qt_gf rfl rfl rfl (fun hg => (Ry.yl (ry_whole rfl))) ?_
  refine qt_gf rfl rfl rfl (fun hg => (Ry.yl (ry_field (o' := 0) rfl rfl))) ?_
  refine qt_gf rfl rfl rfl (fun hg => (Ry.yl (ry_cellc (ev_c hg rfl)))) ?_
  refine qt_gf rfl rfl rfl (fun hg => yl_callC (evl_cons (ev_c hg rfl) (evl_cons (ev_c hg rfl) evl_nil)) trivial) ?_
  refine qt_gf rfl rfl rfl (fun hg => (Ry.yl (ry_whole rfl))) ?_
  refine qt_gf rfl rfl rfl (fun hg => (Ry.yl (ry_ne (ev_c hg rfl) (ev_c hg rfl)))) ?_
  refine qt_r (ry_or rfl rfl rfl) ?_
  refine qt_nil ?_
  refine ex_then ?_
  refine cw_cond rfl (fun h0 => ?_) (fun h0 => ?_)
  · try simp only [Bool.and_eq_true, Bool.or_eq_true, Bool.and_eq_false_iff, Bool.or_eq_false_iff, Bool.not_eq_true', Bool.not_eq_false', decide_eq_true_eq, decide_eq_false_iff_not, Bool.not_eq_true, Bool.not_eq_false] at h0
    have hk : walkOk t.bits t.ns.xs k = false := by rw [walkOk]; rcases h0 with h | h; rw [h]; rfl; rw [decide_eq_false h]; simp
    refine cw_seq ?_
    refine cw_region ?_
    refine sq_r (ry_assign rfl) ?_
    refine sq_nil ?_
    refine ex_then ?_
    refine cw_ret ?_
    refine ex_pass_ret ?_
    refine ex_ret (.inl rfl) (res_1 rfl (rv_tmp rfl)) (fun w1 hw => ?_)
    exact ⟨Sv.none, rfl, trivial, by rw [walkV, if_neg (by rw [hk]; simp)]; exact Mem.nilOwn iec 1 (Keep.mem hw : Mem w [] _)⟩
  · try simp only [Bool.and_eq_true, Bool.or_eq_true, Bool.and_eq_false_iff, Bool.or_eq_false_iff, Bool.not_eq_true', Bool.not_eq_false', decide_eq_true_eq, decide_eq_false_iff_not, Bool.not_eq_true, Bool.not_eq_false] at h0
    have hs : (stepsV t.bits t.ns.xs).isSome = true := by simpa using h0.1
    have hk : walkOk t.bits t.ns.xs k = true := by rw [walkOk, hs]; simpa using h0.2
    obtain ⟨hr, hb, hl1, hl2⟩ := inR_of hs
    refine cw_skip ?_
    refine ex_then ?_
    refine cw_seq ?_
    refine cw_region ?_
    refine sq_buildSlice (enc := iec) (vals := [_]) [0] rfl rfl rfl (by decide) (by decide) fun b19 => ?_
    refine sq_r (ry_assign rfl) ?_
    refine sq_nil ?_
    refine ex_then ?_
    refine cw_seq ?_
    refine cw_seq ?_
    refine cw_region ?_
    refine sq_r (ry_field (o' := 0) rfl rfl) ?_
    refine sq_r (ry_cellc rfl) ?_
    refine sq_r (ry_quo rfl rfl (by omega) (by omega)) ?_
    refine sq_r (ry_move rfl) ?_
    refine sq_nil ?_
    refine ex_then ?_
    refine cw_block ?_
    refine cw_loop (X := Nat × Sv) (fun zz => [(23, .int .i64 (zz.1 : Nat)), (5, zz.2.val), (2, .pointer (some ⟨b2, 0, none⟩)), (3, .pointer (some ⟨b3, 0, none⟩)), (22, .int .i64 (t.bits / 4))]) (fun zz => [own iec 1 zz.2 (wayL t.ns.xs k zz.1), blk b2 (tcells t) 76, blk b3 (kcells k) 24]) (fun zz => zz.1 ≤ (t.bits / 4).toNat ∧ ∀ j, j < zz.1 → chain t.ns.xs k (j + 1) ≠ 0) (fun zz => (t.bits / 4).toNat - zz.1) (0, ⟨false, b19, 0, 1, 1, none⟩) ⟨Nat.zero_le _, fun j hj => absurd hj (Nat.not_lt_zero j)⟩ (Sub.cons rfl (Sub.cons rfl (Sub.cons rfl (Sub.cons rfl (Sub.cons rfl (Sub.nil _)))))) (fun w hw => (Keep.mem hw : Mem _ [own iec 1 ⟨false, b19, 0, 1, 1, none⟩ [0], blk b2 (tcells t) 76, blk b3 (kcells k) 24] _)) ?_
    rintro ⟨i, s1⟩ ⟨hi1, hi2⟩
    dsimp only
    simp only at hi1 hi2
    have hcl := chain_lt (k := k) hr hl1 i
    have hst := kst_lt k i
    have hke := kst_eq k i
    refine cw_seq ?_
    refine cw_region ?_
    refine sq_r (ry_int rfl rfl rfl) ?_
    refine sq_nil ?_
    refine ex_then ?_
    refine cw_seq ?_
    refine cw_cond rfl (fun h1 => ?_) (fun h1 => ?_)
    · try simp only [Bool.and_eq_true, Bool.or_eq_true, Bool.and_eq_false_iff, Bool.or_eq_false_iff, Bool.not_eq_true', Bool.not_eq_false', decide_eq_true_eq, decide_eq_false_iff_not, Bool.not_eq_true, Bool.not_eq_false] at h1
      refine cw_skip ?_
      refine ex_then ?_
      refine cw_seq ?_
      refine cw_block ?_
      refine cw_seq ?_
      refine cw_region ?_
      refine sq_r (ry_move rfl) ?_
      refine sq_r (ry_assign rfl) ?_
      refine sq_nil ?_
      refine ex_then ?_
      refine cw_seq ?_
      refine cw_quiet (by kernel_rfl) (by kernel_rfl) ?_
      refine qt_r (ry_field (o' := 1) rfl rfl) ?_
      refine qt_r (ry_cellc rfl) ?_
      refine qt_r (ry_move rfl) ?_
      refine qt_r (ry_move rfl) ?_
      refine qt_r (ry_idxH rfl rfl i rfl (by rw [wayL_length]; omega)) ?_
      refine qt_r (ry_elemcH (j := 0) rfl i (wayL_get (Nat.le_refl i)) rfl (by decide)) ?_
      refine qt_r (ry_whole rfl) ?_
      refine qt_r (ry_move rfl) ?_
      refine qt_y (yl_callC rfl trivial) ?_
      obtain ⟨n, hn⟩ := get_some (xs := t.ns.xs) (i := (chain t.ns.xs k i)) hcl
      refine qt_r (ry_idxH rfl rfl (chain t.ns.xs k i) rfl hcl) ?_
      refine qt_r (ry_field rfl rfl) ?_
      refine qt_r (ry_idxA rfl rfl (by omega) (by omega)) ?_
      refine qt_r (ry_nx rfl (chain t.ns.xs k i) hn ((kstep k ((i : Nat) : Int)).toNat) (by omega) (by simp only [Nat.add_eq, Int.toNat_natCast, Nat.mul_one, Nat.zero_add, Nat.add_zero] <;> omega)) ?_
      refine qt_r (ry_assign rfl) ?_
      refine qt_nil ?_
      refine ex_then ?_
      refine cw_seq ?_
      refine cw_seq ?_
      refine cw_region ?_
      refine sq_r (ry_move rfl) ?_
      refine sq_r (ry_int rfl rfl rfl) ?_
      refine sq_nil ?_
      refine ex_then ?_
      refine cw_cond rfl (fun h2 => ?_) (fun h2 => ?_)
      · try simp only [Bool.and_eq_true, Bool.or_eq_true, Bool.and_eq_false_iff, Bool.or_eq_false_iff, Bool.not_eq_true', Bool.not_eq_false', decide_eq_true_eq, decide_eq_false_iff_not, Bool.not_eq_true, Bool.not_eq_false] at h2
        have h00 : chain t.ns.xs k (i + 1) = 0 := by rw [chain, getD_some hn]; have : n.nx (kst k i) = 0 := h2; omega
        refine cw_exit ?_
        refine ex_pass_exit ?_
        refine ex_block_miss rfl ?_
        refine ex_pass_exit ?_
        refine ex_pass_exit ?_
        refine ex_block_hit ?_
        refine ex_then ?_
        refine cw_seq ?_
        refine cw_region ?_
        refine sq_r (ry_move rfl) ?_
        refine sq_r (ry_assign rfl) ?_
        refine sq_nil ?_
        refine ex_then ?_
        refine cw_ret ?_
        refine ex_ret (.inl rfl) (res_1 rfl (rv_tmp rfl)) (fun w1 hw => ?_)
        exact ⟨s1, rfl, trivial, by rw [walkV, if_pos hk, wayLen_stop (by omega) hi2 h00]; exact Keep.mem hw⟩
      · try simp only [Bool.and_eq_true, Bool.or_eq_true, Bool.and_eq_false_iff, Bool.or_eq_false_iff, Bool.not_eq_true', Bool.not_eq_false', decide_eq_true_eq, decide_eq_false_iff_not, Bool.not_eq_true, Bool.not_eq_false] at h2
        have hnx : n.nx (kstep k (i : Nat)).toNat = ((chain t.ns.xs k (i + 1) : Nat) : Int) := by rw [chain, getD_some hn]; have := (hr _ n hn (kst k i) hst).1; show n.nx (kst k i) = _; omega
        refine cw_skip ?_
        refine ex_then ?_
        refine cw_region ?_
        refine sq_r (ry_move rfl) ?_
        refine sq_r (ry_move rfl) ?_
        refine sq_buildSlice (enc := iec) (vals := [_]) [n.nx ((kstep k ((i : Nat) : Int)).toNat)] rfl rfl rfl (by decide) (by decide) fun b43 => ?_
        refine sq_append (s := s1) (ys := [n.nx ((kstep k ((i : Nat) : Int)).toNat)]) rfl rfl (by decide) (fun w hw => src_rows (s := ⟨false, b43, 0, 1, 1, none⟩) Try.underlying104 (by decide) ((inferInstance : Hd _ _ ⟨false, b43, 0, 1, 1, none⟩ iec 1 [n.nx ((kstep k ((i : Nat) : Int)).toNat)]).h w hw)) (by rw [wayL_length]; simp only [List.length_cons, List.length_nil]; omega) (by rw [wayL_length]; simp only [List.length_cons, List.length_nil]; omega) fun s44 hs44 hl44 => ?_
        refine sq_r (ry_assign rfl) ?_
        refine sq_nil ?_
        refine ex_block ?_
        refine ex_then ?_
        refine cw_region ?_
        refine sq_r (ry_add rfl rfl (by omega)) ?_
        refine sq_r (ry_move rfl) ?_
        refine sq_nil ?_
        exact ex_again (x := (i, s1)) (i + 1, s44) ⟨by first | omega | (simp only []; omega), fun j hj => (Nat.lt_or_ge j i).elim (hi2 j) fun h => by obtain rfl : j = i := (by first | omega | (simp only []; omega)); intro h9; rw [h9] at hnx; exact h2 hnx⟩ (by simp only; omega) (Sub.cons rfl (Sub.cons rfl (Sub.cons rfl (Sub.cons rfl (Sub.cons rfl (Sub.nil _)))))) (fun w hw => by rw [wayL_succ, ← hnx]; exact Keep.mem hw)
    · try simp only [Bool.and_eq_true, Bool.or_eq_true, Bool.and_eq_false_iff, Bool.or_eq_false_iff, Bool.not_eq_true', Bool.not_eq_false', decide_eq_true_eq, decide_eq_false_iff_not, Bool.not_eq_true, Bool.not_eq_false] at h1
      refine cw_exit ?_
      refine ex_pass_exit ?_
      refine ex_pass_exit ?_
      refine ex_block_hit ?_
      refine ex_then ?_
      refine cw_seq ?_
      refine cw_region ?_
      refine sq_r (ry_move rfl) ?_
      refine sq_r (ry_assign rfl) ?_
      refine sq_nil ?_
      refine ex_then ?_
      refine cw_ret ?_
      refine ex_ret (.inl rfl) (res_1 rfl (rv_tmp rfl)) (fun w1 hw => ?_)
      exact ⟨s1, rfl, trivial, by rw [walkV, if_pos hk, wayLen_all (fun j hj => hi2 j (by omega)), show (t.bits / 4).toNat = i by omega]; exact Keep.mem hw⟩
instance twalk_i {w0 : World} {L : List Ent} {t : Tri} {k : Key} [ht : HdD w0 L t] : FnC Try.prog 67 w0 L [.agg (tcells t), .agg (kcells k)] (Sv) (fun zz => zz.val) (fun zz => own iec 1 zz (walkV t.bits t.ns.xs k) :: L) (fun zz => True) (True) := ⟨fun hp w hw => (twalk_c w t k (ht.h w hw)).mono fun e w' ⟨x, h1, h2, h3⟩ => ⟨x, h1, h2, hw.call h3⟩⟩
set_option maxRecDepth 20000 in
theorem tfind_c (w : World) (t : Tri) (k : Key) (ht : Deep.good (hp w) t) : Calls Try.prog 50 #[.agg (tcells t), .agg (kcells k)] w fun e w' => e = .returned (.tuple #[.int .i64 (findN t.bits t.ns.xs k), .int .u16 ((findH t.bits t.ns.xs k).toNat : Nat), .int .i64 (findE t.bits t.ns.xs k)]) ∧ Mem w [] w' := by
  have ght : GvD w t := ⟨ht⟩
  refine calls_of (args := [_, _]) Try.func50 rfl Try.ntmps50 rfl ?_
  change Cw _ _ _ _ _ [(0, .agg (tcells t)), (1, .agg (kcells k))] []
  refine cw_seq ?_
  refine cw_region ?_
  refine sq_boxA rfl fun b2 => ?_
  refine sq_boxA rfl fun b3 => ?_
  refine sq_r (ry_assign rfl) ?_
  refine sq_r (ry_assign rfl) ?_
  refine sq_r (ry_assign rfl) ?_
  refine sq_nil ?_
  refine ex_then ?_
  refine cw_seq ?_
  refine cw_region ?_
  refine sq_r (ry_whole rfl) ?_
  refine sq_r (ry_whole rfl) ?_
  refine sq_callC rfl trivial fun x14 hp14 => ?_
  refine sq_r (ry_assign rfl) ?_
  refine sq_nil ?_
  refine ex_then ?_
  refine cw_seq ?_
  refine cw_seq ?_
  refine cw_region ?_
  refine sq_r (ry_move rfl) ?_
  refine sq_r (ry_lenH rfl) ?_
  refine sq_r (ry_int rfl rfl rfl) ?_
  refine sq_nil ?_
  refine ex_then ?_
  refine cw_cond rfl (fun h0 => ?_) (fun h0 => ?_)
  · try simp only [Bool.and_eq_true, Bool.or_eq_true, Bool.and_eq_false_iff, Bool.or_eq_false_iff, Bool.not_eq_true', Bool.not_eq_false', decide_eq_true_eq, decide_eq_false_iff_not, Bool.not_eq_true, Bool.not_eq_false] at h0
    have hk : walkOk t.bits t.ns.xs k = false := walkV_len.1 (by omega)
    have he : findE t.bits t.ns.xs k = 1 := by rw [findE, if_neg (by rw [hk]; simp)]
    refine cw_seq ?_
    refine cw_region ?_
    refine sq_r (ry_assign rfl) ?_
    refine sq_r (ry_assign rfl) ?_
    refine sq_r (ry_assign rfl) ?_
    refine sq_nil ?_
    refine ex_then ?_
    refine cw_ret ?_
    refine ex_pass_ret ?_
    refine ex_ret (.inl rfl) (res_3 rfl (rv_tmp rfl) (rv_tmp rfl) (rv_tmp rfl)) (fun w1 hw => ?_)
    exact ⟨by rw [findN, findH, he]; rfl, Keep.mem hw⟩
  · try simp only [Bool.and_eq_true, Bool.or_eq_true, Bool.and_eq_false_iff, Bool.or_eq_false_iff, Bool.not_eq_true', Bool.not_eq_false', decide_eq_true_eq, decide_eq_false_iff_not, Bool.not_eq_true, Bool.not_eq_false] at h0
    have hk : walkOk t.bits t.ns.xs k = true := by cases h : walkOk t.bits t.ns.xs k with | true => rfl | false => exact absurd (walkV_len.2 h) (by omega)
    have hs : (stepsV t.bits t.ns.xs).isSome = true := by rw [walkOk, Bool.and_eq_true] at hk; exact hk.1
    obtain ⟨hr, hb, hl1, hl2⟩ := inR_of hs
    refine cw_skip ?_
    refine ex_then ?_
    refine cw_seq ?_
    refine cw_region ?_
    refine sq_allocA fun b8 => ?_
    refine sq_nil ?_
    refine ex_then ?_
    refine cw_seq ?_
    refine cw_seq ?_
    refine cw_region ?_
    refine sq_r (ry_move rfl) ?_
    refine sq_r (ry_lenH rfl) ?_
    refine sq_r (ry_move rfl) ?_
    refine sq_nil ?_
    refine ex_then ?_
    refine cw_block ?_
    refine cw_bd x14 fun hbd => ?_
    refine cw_loop (X := Nat) (fun zz => [(20, .int .i64 (zz : Nat)), (8, .pointer (some ⟨b8, 0, none⟩)), (2, .pointer (some ⟨b2, 0, none⟩)), (3, .pointer (some ⟨b3, 0, none⟩)), (18, x14.val), (19, .int .i64 ((walkV t.bits t.ns.xs k).length : Nat))]) (fun zz => [blk b8 (slcells (bestOf t.ns.xs k zz)) 156, own iec 1 x14 (walkV t.bits t.ns.xs k), blk b2 (tcells t) 76, blk b3 (kcells k) 24]) (fun zz => zz ≤ (walkV t.bits t.ns.xs k).length) (fun zz => (walkV t.bits t.ns.xs k).length - zz) 0 (Nat.zero_le _) (Sub.cons rfl (Sub.cons rfl (Sub.cons rfl (Sub.cons rfl (Sub.cons rfl (Sub.cons rfl (Sub.nil _))))))) (fun w hw => (Keep.mem hw : Mem _ [blk b8 (slcells Slt.no) 156, own iec 1 x14 (walkV t.bits t.ns.xs k), blk b2 (tcells t) 76, blk b3 (kcells k) 24] _)) ?_
    rintro i hI
    have hcl := chain_lt (k := k) hr hl1 i
    have hst := kst_lt k i
    have hke := kst_eq k i
    refine cw_seq ?_
    refine cw_region ?_
    refine sq_r (ry_int rfl rfl rfl) ?_
    refine sq_nil ?_
    refine ex_then ?_
    refine cw_seq ?_
    refine cw_cond rfl (fun h1 => ?_) (fun h1 => ?_)
    · try simp only [Bool.and_eq_true, Bool.or_eq_true, Bool.and_eq_false_iff, Bool.or_eq_false_iff, Bool.not_eq_true', Bool.not_eq_false', decide_eq_true_eq, decide_eq_false_iff_not, Bool.not_eq_true, Bool.not_eq_false] at h1
      refine cw_skip ?_
      refine ex_then ?_
      refine cw_seq ?_
      refine cw_block ?_
      refine cw_seq ?_
      refine cw_region ?_
      refine sq_r (ry_move rfl) ?_
      refine sq_r (ry_idxH rfl rfl i rfl (by omega)) ?_
      refine sq_r (ry_elemcH (j := 0) rfl i (walkV_get (by omega)) rfl (by decide)) ?_
      refine sq_r (ry_assign rfl) ?_
      refine sq_r (ry_assign rfl) ?_
      refine sq_nil ?_
      refine ex_then ?_
      refine cw_seq ?_
      refine cw_lin [10, 11] [[], [], [], [], [], [], [], [], [], [], [], [10]] [0, 1, 2, 3, 4, 5, 6, 7, 8, 9, 10, 11] [blk b2 (tcells t) 76, blk b3 (kcells k) 24] (fun _ hw => Keep.mem hw) (by kernel_rfl) (by kernel_rfl) ?_
      refine ln_r rfl (ry_field (o' := 1) rfl rfl) ?_
      refine ln_r rfl (ry_cellc rfl) ?_
      refine ln_r rfl (ry_move rfl) ?_
      refine ln_r rfl (ry_whole rfl) ?_
      refine ln_r rfl (ry_move rfl) ?_
      refine ln_y rfl (yl_callC rfl trivial) ?_
      obtain ⟨n, hn⟩ := get_some (xs := t.ns.xs) (i := (chain t.ns.xs k i)) hcl
      refine ln_r rfl (ry_idxH rfl rfl (chain t.ns.xs k i) rfl hcl) ?_
      refine ln_r rfl (ry_field rfl rfl) ?_
      refine ln_r rfl (ry_idxA rfl rfl (by omega) (by omega)) ?_
      refine ln_r rfl (ry_slot rfl (chain t.ns.xs k i) hn ((kstep k ((i : Nat) : Int)).toNat) (by omega) (by simp only [Nat.add_eq, Int.toNat_natCast, Nat.mul_one, Nat.zero_add, Nat.add_zero] <;> omega)) ?_
      refine ln_st rfl (st_allocA fun b11 => ⟨fun _ hw => Keep.mem hw, ?_⟩)
      refine ln_st rfl (st_storeW rfl rfl ⟨fun _ hw => Keep.mem hw, ?_⟩)
      refine ln_nil ?_
      refine ex_then ?_
      refine cw_seq ?_
      refine cw_region ?_
      refine sq_r (ry_field (o' := 0) rfl rfl) ?_
      refine sq_r (ry_cellc rfl) ?_
      refine sq_r (ry_field (o' := 0) rfl rfl) ?_
      refine sq_r (ry_cellc rfl) ?_
      refine sq_r (ry_int rfl rfl rfl) ?_
      refine sq_nil ?_
      refine ex_then ?_
      refine cw_cond rfl (fun h2 => ?_) (fun h2 => ?_)
      · try simp only [Bool.and_eq_true, Bool.or_eq_true, Bool.and_eq_false_iff, Bool.or_eq_false_iff, Bool.not_eq_true', Bool.not_eq_false', decide_eq_true_eq, decide_eq_false_iff_not, Bool.not_eq_true, Bool.not_eq_false] at h2
        have hbn : bestOf t.ns.xs k (i + 1) = n.sl (kstep k (i : Nat)).toNat := by simp only [bestOf, getD_some hn]; exact if_pos h2
        refine cw_region ?_
        refine sq_r (ry_whole rfl) ?_
        refine sq_storeW rfl rfl ?_
        refine sq_nil ?_
        refine ex_block ?_
        refine ex_then ?_
        refine cw_region ?_
        refine sq_r (ry_add rfl rfl (by omega)) ?_
        refine sq_r (ry_move rfl) ?_
        refine sq_nil ?_
        exact ex_again (x := (i)) (i + 1) (by first | omega | (simp only []; omega)) (by first | omega | (simp only []; omega)) (Sub.cons rfl (Sub.cons rfl (Sub.cons rfl (Sub.cons rfl (Sub.cons rfl (Sub.cons rfl (Sub.nil _))))))) (fun w hw => by rw [hbn]; exact Keep.mem hw)
      · try simp only [Bool.and_eq_true, Bool.or_eq_true, Bool.and_eq_false_iff, Bool.or_eq_false_iff, Bool.not_eq_true', Bool.not_eq_false', decide_eq_true_eq, decide_eq_false_iff_not, Bool.not_eq_true, Bool.not_eq_false] at h2
        have hbn : bestOf t.ns.xs k (i + 1) = bestOf t.ns.xs k i := by simp only [bestOf, getD_some hn]; exact if_neg h2
        refine cw_skip ?_
        refine ex_block ?_
        refine ex_then ?_
        refine cw_region ?_
        refine sq_r (ry_add rfl rfl (by omega)) ?_
        refine sq_r (ry_move rfl) ?_
        refine sq_nil ?_
        exact ex_again (x := (i)) (i + 1) (by first | omega | (simp only []; omega)) (by first | omega | (simp only []; omega)) (Sub.cons rfl (Sub.cons rfl (Sub.cons rfl (Sub.cons rfl (Sub.cons rfl (Sub.cons rfl (Sub.nil _))))))) (fun w hw => by rw [hbn]; exact Keep.mem hw)
    · try simp only [Bool.and_eq_true, Bool.or_eq_true, Bool.and_eq_false_iff, Bool.or_eq_false_iff, Bool.not_eq_true', Bool.not_eq_false', decide_eq_true_eq, decide_eq_false_iff_not, Bool.not_eq_true, Bool.not_eq_false] at h1
      refine cw_exit ?_
      refine ex_pass_exit ?_
      refine ex_pass_exit ?_
      refine ex_block_hit ?_
      refine ex_then ?_
      refine cw_seq ?_
      refine cw_seq ?_
      refine cw_region ?_
      refine sq_r (ry_field (o' := 0) rfl rfl) ?_
      refine sq_r (ry_cellc rfl) ?_
      refine sq_r (ry_int rfl rfl rfl) ?_
      refine sq_nil ?_
      refine ex_then ?_
      refine cw_cond rfl (fun h3 => ?_) (fun h3 => ?_)
      · try simp only [Bool.and_eq_true, Bool.or_eq_true, Bool.and_eq_false_iff, Bool.or_eq_false_iff, Bool.not_eq_true', Bool.not_eq_false', decide_eq_true_eq, decide_eq_false_iff_not, Bool.not_eq_true, Bool.not_eq_false] at h3
        have hfe : findS t.bits t.ns.xs k = bestOf t.ns.xs k i := by rw [findS, show (walkV t.bits t.ns.xs k).length = i by omega]
        have he : findE t.bits t.ns.xs k = 6 := by rw [findE, if_pos hk, hfe, if_pos h3]
        refine cw_seq ?_
        refine cw_region ?_
        refine sq_r (ry_assign rfl) ?_
        refine sq_r (ry_assign rfl) ?_
        refine sq_r (ry_assign rfl) ?_
        refine sq_nil ?_
        refine ex_then ?_
        refine cw_ret ?_
        refine ex_pass_ret ?_
        refine ex_ret (.inl rfl) (res_3 rfl (rv_tmp rfl) (rv_tmp rfl) (rv_tmp rfl)) (fun w1 hw => ?_)
        exact ⟨by rw [findN, findH, he]; rfl, Keep.mem hw⟩
      · try simp only [Bool.and_eq_true, Bool.or_eq_true, Bool.and_eq_false_iff, Bool.or_eq_false_iff, Bool.not_eq_true', Bool.not_eq_false', decide_eq_true_eq, decide_eq_false_iff_not, Bool.not_eq_true, Bool.not_eq_false] at h3
        have hfe : findS t.bits t.ns.xs k = bestOf t.ns.xs k i := by rw [findS, show (walkV t.bits t.ns.xs k).length = i by omega]
        have he : findE t.bits t.ns.xs k = 0 := by rw [findE, if_pos hk, hfe, if_neg h3]
        have hbr := bestOf_rng (k := k) hs i
        refine cw_skip ?_
        refine ex_then ?_
        refine cw_seq ?_
        refine cw_quiet (by kernel_rfl) (by kernel_rfl) ?_
        refine qt_r (ry_field (o' := 0) rfl rfl) ?_
        refine qt_r (ry_cellc rfl) ?_
        refine qt_r (ry_sub rfl rfl (by omega)) ?_
        refine qt_r (ry_field (o' := 1) rfl rfl) ?_
        refine qt_r (ry_cellc rfl) ?_
        refine qt_r (ry_assign rfl) ?_
        refine qt_r (ry_assign rfl) ?_
        refine qt_r (ry_assign rfl) ?_
        refine qt_nil ?_
        refine ex_then ?_
        refine cw_ret ?_
        refine ex_ret (.inl rfl) (res_3 rfl (rv_tmp rfl) (rv_tmp rfl) (rv_tmp rfl)) (fun w1 hw => ?_)
        exact ⟨by rw [findN, findH, he, hfe]; rfl, Keep.mem hw⟩
instance tfind_i {w0 : World} {L : List Ent} {t : Tri} {k : Key} [ht : HdD w0 L t] : FnQ Try.prog 50 w0 L [.agg (tcells t), .agg (kcells k)] (.tuple #[.int .i64 (findN t.bits t.ns.xs k), .int .u16 ((findH t.bits t.ns.xs k).toNat : Nat), .int .i64 (findE t.bits t.ns.xs k)]) (True) := ⟨fun hp w hw => tfind_c w t k (ht.h w hw)⟩

end Go.Proofs.Ytajhlgdapiihgaa

/- The laws of layer 4 are awake: walked. -/
set_option linter.unusedSimpArgs false
set_option linter.unusedVariables false
namespace Go.Proofs.Ytajhlgdapiihgaa
open Go.Eng Go.Kb

def ak0 : Key := BitVec.ofNat 128 (10 * 2 ^ 120)
def ak1 : Key := BitVec.ofNat 128 (10 * 2 ^ 120 + 127 * 2 ^ 112)
def ak2 : Key := BitVec.ofNat 128 (10 * 2 ^ 120 + 128 * 2 ^ 112)
def ak3 : Key := BitVec.ofNat 128 (11 * 2 ^ 120)
def ar4 : Rt := ⟨⟨32, 9, ak0⟩, 7⟩
theorem aw4_E : buildE [ar4] 32 = 0 := by decide +kernel
theorem aw4_B : buildB [ar4] 32 = 32 := by decide +kernel
theorem aw4_L : (buildN [ar4] 32).length = 3 := by decide +kernel
theorem aw4_1 : findE 32 (buildN [ar4] 32) ak1 = 0 ∧ findN 32 (buildN [ar4] 32) ak1 = 9 ∧ (findH 32 (buildN [ar4] 32) ak1).toNat = 7 := by decide +kernel
theorem aw4_2 : findE 32 (buildN [ar4] 32) ak2 = 6 := by decide +kernel
theorem aw4_3 : (stepsV 32 (buildN [ar4] 32)).isSome = true ∧ deepV 32 (buildN [ar4] 32) = 3 ∧ (walkV 32 (buildN [ar4] 32) ak3).length = 2 := by decide +kernel
set_option maxRecDepth 20000 in
theorem aw4_c (w : World)   : Calls Try.prog 47 #[] w fun e w' => e = .returned (.bool true) ∧ Mem w [] w' := by
  refine calls_of (args := []) Try.func47 rfl Try.ntmps47 rfl ?_
  change Cw _ _ _ _ _ [] []
  refine cw_seq ?_
  refine cw_region ?_
  refine sq_r (ry_assign rfl) ?_
  refine sq_nil ?_
  refine ex_then ?_
  refine cw_seq ?_
  refine cw_region ?_
  refine sq_r (ry_build (v := .agg (kcells ak0)) rfl (fun w => by kernel_rfl)) ?_
  refine sq_r (ry_build (v := .agg (pcells ar4.p)) rfl (fun w => by kernel_rfl)) ?_
  refine sq_r (ry_build (v := .agg (rcells ar4)) rfl (fun w => by kernel_rfl)) ?_
  refine sq_buildSlice (enc := rcells) (vals := [_]) [ar4] rfl rfl rfl (by decide) (by decide) fun b13 => ?_
  refine sq_callC rfl trivial fun x14 hp14 => ?_
  have ebits : x14.bits = 32 := hp14.1.trans aw4_B
  have ens : x14.ns.xs = buildN [ar4] 32 := hp14.2
  have g1 := aw4_L
  have g2 := aw4_1
  have g3 := aw4_2
  have g4 := aw4_3
  rw [← ens] at g1 g2 g3 g4
  rw [← ebits] at g2 g3 g4
  obtain ⟨g21, g22, g23⟩ := g2
  obtain ⟨g41, g42, g43⟩ := g4
  refine sq_r (ry_move rfl) ?_
  refine sq_r (ry_extract (v := .agg (tcells x14)) rfl rfl) ?_
  refine sq_r (ry_extract (v := .int .i64 (buildE [ar4] 32)) rfl rfl) ?_
  refine sq_allocA fun b1 => ?_
  refine sq_storeW rfl rfl ?_
  refine sq_r (ry_assign rfl) ?_
  refine sq_nil ?_
  refine ex_then ?_
  refine cw_seq ?_
  refine cw_region ?_
  refine sq_r (ry_whole rfl) ?_
  refine sq_r (ry_build (v := .agg (kcells ak1)) rfl (fun w => by kernel_rfl)) ?_
  refine sq_y (yl_callC rfl trivial) ?_
  refine sq_r (ry_move rfl) ?_
  refine sq_r (ry_extract (v := .int .i64 (findN x14.bits x14.ns.xs ak1)) rfl rfl) ?_
  refine sq_r (ry_extract (v := .int .u16 ((findH x14.bits x14.ns.xs ak1).toNat : Nat)) rfl rfl) ?_
  refine sq_r (ry_extract (v := .int .i64 (findE x14.bits x14.ns.xs ak1)) rfl rfl) ?_
  refine sq_r (ry_assign rfl) ?_
  refine sq_r (ry_assign rfl) ?_
  refine sq_r (ry_assign rfl) ?_
  refine sq_nil ?_
  refine ex_then ?_
  refine cw_seq ?_
  refine cw_region ?_
  refine sq_r (ry_whole rfl) ?_
  refine sq_r (ry_build (v := .agg (kcells ak2)) rfl (fun w => by kernel_rfl)) ?_
  refine sq_y (yl_callC rfl trivial) ?_
  refine sq_r (ry_move rfl) ?_
  refine sq_r (ry_extract (v := .int .i64 (findN x14.bits x14.ns.xs ak2)) rfl rfl) ?_
  refine sq_r (ry_extract (v := .int .u16 ((findH x14.bits x14.ns.xs ak2).toNat : Nat)) rfl rfl) ?_
  refine sq_r (ry_extract (v := .int .i64 (findE x14.bits x14.ns.xs ak2)) rfl rfl) ?_
  refine sq_r (ry_assign rfl) ?_
  refine sq_r (ry_assign rfl) ?_
  refine sq_r (ry_assign rfl) ?_
  refine sq_nil ?_
  refine ex_then ?_
  refine cw_seq ?_
  refine cw_region ?_
  refine sq_r (ry_move rfl) ?_
  refine sq_r (ry_int rfl rfl rfl) ?_
  refine sq_r (ry_move rfl) ?_
  refine sq_ty rfl rfl rfl (by simp [aw4_E, g1, g21, g22, g23, g3, g41, g42, g43]) (Ry.yl (ry_field (o' := 1) rfl rfl)) ?_
  refine sq_ty rfl rfl rfl (by simp [aw4_E, g1, g21, g22, g23, g3, g41, g42, g43]) (Ry.yl (ry_cellc rfl)) ?_
  refine sq_ty rfl rfl rfl (by simp [aw4_E, g1, g21, g22, g23, g3, g41, g42, g43]) (Ry.yl (ry_lenH rfl)) ?_
  refine sq_ty rfl rfl rfl (by simp [aw4_E, g1, g21, g22, g23, g3, g41, g42, g43]) (Ry.yl (ry_int rfl rfl rfl)) ?_
  refine sq_r (ry_pickT rfl (by simp [aw4_E, g1, g21, g22, g23, g3, g41, g42, g43]) rfl rfl) ?_
  refine sq_r (ry_move rfl) ?_
  refine sq_ty rfl rfl rfl (by simp [aw4_E, g1, g21, g22, g23, g3, g41, g42, g43]) (Ry.yl (ry_move rfl)) ?_
  refine sq_ty rfl rfl rfl (by simp [aw4_E, g1, g21, g22, g23, g3, g41, g42, g43]) (Ry.yl (ry_int rfl rfl rfl)) ?_
  refine sq_r (ry_pickT rfl (by simp [aw4_E, g1, g21, g22, g23, g3, g41, g42, g43]) rfl rfl) ?_
  refine sq_r (ry_move rfl) ?_
  refine sq_ty rfl rfl rfl (by simp [aw4_E, g1, g21, g22, g23, g3, g41, g42, g43]) (Ry.yl (ry_move rfl)) ?_
  refine sq_ty rfl rfl rfl (by simp [aw4_E, g1, g21, g22, g23, g3, g41, g42, g43]) (Ry.yl (ry_int rfl rfl rfl)) ?_
  refine sq_r (ry_pickT rfl (by simp [aw4_E, g1, g21, g22, g23, g3, g41, g42, g43]) rfl rfl) ?_
  refine sq_r (ry_move rfl) ?_
  refine sq_ty rfl rfl rfl (by simp [aw4_E, g1, g21, g22, g23, g3, g41, g42, g43]) (Ry.yl (ry_move rfl)) ?_
  refine sq_ty rfl rfl rfl (by simp [aw4_E, g1, g21, g22, g23, g3, g41, g42, g43]) (Ry.yl (ry_int rfl rfl rfl)) ?_
  refine sq_r (ry_pickT rfl (by simp [aw4_E, g1, g21, g22, g23, g3, g41, g42, g43]) rfl rfl) ?_
  refine sq_r (ry_move rfl) ?_
  refine sq_ty rfl rfl rfl (by simp [aw4_E, g1, g21, g22, g23, g3, g41, g42, g43]) (Ry.yl (ry_move rfl)) ?_
  refine sq_ty rfl rfl rfl (by simp [aw4_E, g1, g21, g22, g23, g3, g41, g42, g43]) (Ry.yl (ry_int rfl rfl rfl)) ?_
  refine sq_r (ry_pickT rfl (by simp [aw4_E, g1, g21, g22, g23, g3, g41, g42, g43]) rfl rfl) ?_
  refine sq_r (ry_move rfl) ?_
  refine sq_ty rfl rfl rfl (by simp [aw4_E, g1, g21, g22, g23, g3, g41, g42, g43]) (Ry.yl (ry_whole rfl)) ?_
  refine sq_ty rfl rfl rfl (by simp [aw4_E, g1, g21, g22, g23, g3, g41, g42, g43]) (yl_callC rfl trivial) ?_
  refine sq_r (ry_pickT rfl (by simp [aw4_E, g1, g21, g22, g23, g3, g41, g42, g43]) rfl rfl) ?_
  refine sq_r (ry_move rfl) ?_
  refine sq_ty rfl rfl rfl (by simp [aw4_E, g1, g21, g22, g23, g3, g41, g42, g43]) (Ry.yl (ry_whole rfl)) ?_
  refine sq_ty rfl rfl rfl (by simp [aw4_E, g1, g21, g22, g23, g3, g41, g42, g43]) (yl_callC rfl trivial) ?_
  refine sq_ty rfl rfl rfl (by simp [aw4_E, g1, g21, g22, g23, g3, g41, g42, g43]) (Ry.yl (ry_int rfl rfl rfl)) ?_
  refine sq_r (ry_pickT rfl (by simp [aw4_E, g1, g21, g22, g23, g3, g41, g42, g43]) rfl rfl) ?_
  refine sq_r (ry_move rfl) ?_
  refine sq_ty rfl rfl rfl (by simp [aw4_E, g1, g21, g22, g23, g3, g41, g42, g43]) (Ry.yl (ry_whole rfl)) ?_
  refine sq_ty rfl rfl rfl (by simp [aw4_E, g1, g21, g22, g23, g3, g41, g42, g43]) (Ry.yl (ry_build (v := .agg (kcells ak3)) rfl (fun w => by kernel_rfl))) ?_
  refine sq_tcallC rfl rfl (by simp [aw4_E, g1, g21, g22, g23, g3, g41, g42, g43]) rfl trivial fun x67 hp67 => ?_
  refine sq_ty rfl rfl rfl (by simp [aw4_E, g1, g21, g22, g23, g3, g41, g42, g43]) (Ry.yl (ry_lenH rfl)) ?_
  refine sq_ty rfl rfl rfl (by simp [aw4_E, g1, g21, g22, g23, g3, g41, g42, g43]) (Ry.yl (ry_int rfl rfl rfl)) ?_
  refine sq_r (ry_pickT rfl (by simp [aw4_E, g1, g21, g22, g23, g3, g41, g42, g43]) rfl rfl) ?_
  refine sq_r (ry_assign rfl) ?_
  refine sq_nil ?_
  refine ex_then ?_
  refine cw_ret ?_
  refine ex_ret (.inl rfl) (res_1 rfl (rv_tmp rfl)) (fun w1 hw => ?_)
  exact ⟨congrArg (fun b => Ending.returned (Value.bool b)) ((by simp [g43])), Keep.mem hw⟩
instance aw4_i {w0 : World} {L : List Ent}   : FnQ Try.prog 47 w0 L [] (.bool true) (True) := ⟨fun hp w hw => aw4_c w  ⟩

end Go.Proofs.Ytajhlgdapiihgaa

/- A place in a table: walked. -/
set_option linter.unusedSimpArgs false
set_option linter.unusedVariables false
namespace Go.Proofs.Ytajhlgdapiihgaa
open Go.Eng Go.Kb
instance : Enc pcells 18 := ⟨pcells_size, fun p => (inferInstance : SizeIs (pcells p) 18).one⟩
set_option maxRecDepth 20000 in
theorem tplace1_c (w : World) (b2 b3 : Nat) (s : Sv) (ss : List Rt) (q : Pfx) (j : Nat) (h2 : Lies senc 1 (hp w) ⟨false, b2, 0, 1, 1, none⟩ [s]) (h3 : Lies pcells 18 (hp w) ⟨false, b3, 0, 1, 1, none⟩ [q]) (hs : Lies rcells 19 (hp w) s ss) (hj : j < ss.length) : Calls Try.prog 127 #[.int .i64 (j : Nat), .pointer (some ⟨b2, 0, none⟩), .pointer (some ⟨b3, 0, none⟩)] w fun e w' => e = .returned (.bool (behind ss q j)) ∧ Mem w [] w' := by
  have g2 : Gv w ⟨false, b2, 0, 1, 1, none⟩ senc 1 [s] := ⟨h2⟩
  have g3 : Gv w ⟨false, b3, 0, 1, 1, none⟩ pcells 18 [q] := ⟨h3⟩
  have gs : Gv w s rcells 19 ss := ⟨hs⟩
  refine calls_of (args := [_, _, _]) Try.func127 rfl Try.ntmps127 rfl ?_
  change Cw _ _ _ _ _ [(0, .int .i64 (j : Nat)), (1, .pointer (some ⟨b2, 0, none⟩)), (2, .pointer (some ⟨b3, 0, none⟩))] []
  refine cw_seq ?_
  refine cw_region ?_
  refine sq_r (ry_assign rfl) ?_
  refine sq_nil ?_
  refine ex_then ?_
  refine cw_seq ?_
  refine cw_quiet (by kernel_rfl) (by kernel_rfl) ?_
  refine qt_r (ry_elemcH (s := ⟨false, b2, 0, 1, 1, none⟩) (enc := senc) (c := 1) (xs := [s]) (a := s) (j := 0) (v := s.val) rfl 0 rfl rfl (by decide)) ?_
  refine qt_r (ry_move rfl) ?_
  obtain ⟨r, hr⟩ := get_some (xs := ss) (i := j) (by omega)
  refine qt_r (ry_idxH rfl rfl j rfl (by omega)) ?_
  refine qt_r (ry_field rfl rfl) ?_
  refine qt_r (ry_elempH (j := 0) rfl j hr rfl (by decide)) ?_
  refine qt_r (ry_elemH (s := ⟨false, b3, 0, 1, 1, none⟩) (enc := pcells) (c := 18) (xs := [q]) (a := q) rfl 0 rfl rfl) ?_
  refine qt_y (yl_callC rfl trivial) ?_
  refine qt_r (ry_not rfl) ?_
  refine qt_r (ry_assign rfl) ?_
  refine qt_nil ?_
  refine ex_then ?_
  refine cw_ret ?_
  refine ex_ret (.inl rfl) (res_1 rfl (rv_tmp rfl)) (fun w1 hw => ?_)
  exact ⟨congrArg (fun b => Ending.returned (Value.bool b)) ((by simp only [behind, hr])), Keep.mem hw⟩

set_option maxRecDepth 20000 in
theorem tsearch_c (w : World) (n : Nat) (p : Nat → Bool) (f : FuncId) [hf : IsFn Try.prog f] (caps : Array Value) (hF : ∀ w', Mem w [] w' → ∀ j : Nat, j < n → Calls Try.prog f ([Value.int .i64 (j : Nat)] ++ caps.toList).toArray w' fun e w'' => e = .returned (.bool (p j)) ∧ Mem w' [] w'') (hn : n ≤ 1000000000) : Calls Try.prog 126 #[.int .i64 (n : Nat), .func (.func f) #[] caps] w fun e w' => e = .returned (.int .i64 (bs p n : Nat)) ∧ Mem w [] w' := by
  refine calls_of (args := [_, _]) Try.func126 rfl Try.ntmps126 rfl ?_
  change Cw _ _ _ _ _ [(0, .int .i64 (n : Nat)), (1, .func (.func f) #[] caps)] []
  refine cw_seq ?_
  refine cw_region ?_
  refine sq_r (ry_assign rfl) ?_
  refine sq_nil ?_
  refine ex_then ?_
  refine cw_seq ?_
  refine cw_region ?_
  refine sq_r (ry_move rfl) ?_
  refine sq_r (ry_assign rfl) ?_
  refine sq_r (ry_assign rfl) ?_
  refine sq_nil ?_
  refine ex_then ?_
  refine cw_seq ?_
  refine cw_block ?_
  refine cw_loop (X := Nat × Nat) (fun zz => [(5, .int .i64 (zz.1 : Nat)), (6, .int .i64 (zz.2 : Nat)), (1, .func (.func f) #[] caps)]) (fun zz => []) (fun zz => zz.1 ≤ zz.2 ∧ zz.2 ≤ n ∧ bsl p (n + 1) zz.1 zz.2 = bs p n) (fun zz => zz.2 - zz.1) (0, n) ⟨Nat.zero_le _, Nat.le_refl _, rfl⟩ (Sub.cons rfl (Sub.cons rfl (Sub.cons rfl (Sub.nil _)))) (fun w hw => Keep.mem hw) ?_
  rintro ⟨i, j⟩ ⟨hi1, hi2, hi3⟩
  dsimp only
  simp only at hi1 hi2 hi3
  refine cw_seq ?_
  refine cw_seq ?_
  refine cw_region ?_
  refine sq_r (ry_move rfl) ?_
  refine sq_r (ry_move rfl) ?_
  refine sq_r (ry_int rfl rfl rfl) ?_
  refine sq_nil ?_
  refine ex_then ?_
  refine cw_cond rfl (fun h0 => ?_) (fun h0 => ?_)
  · try simp only [Bool.and_eq_true, Bool.or_eq_true, Bool.and_eq_false_iff, Bool.or_eq_false_iff, Bool.not_eq_true', Bool.not_eq_false', decide_eq_true_eq, decide_eq_false_iff_not, Bool.not_eq_true, Bool.not_eq_false] at h0
    refine cw_skip ?_
    refine ex_then ?_
    refine cw_block ?_
    refine cw_seq ?_
    refine cw_region ?_
    refine sq_r (ry_move rfl) ?_
    refine sq_r (ry_move rfl) ?_
    refine sq_r (ry_add rfl rfl (by omega)) ?_
    refine sq_r (ry_convn (n := i + j) rfl (by simp only [nb]; omega)) ?_
    refine sq_r (ry_shr (p := i + j) rfl rfl (by simp only [nb]; omega) (by omega)) ?_
    refine sq_r (ry_convn (n := (i + j) / 2 ^ 1) rfl (by simp only [nb]; omega)) ?_
    refine sq_r (ry_assign rfl) ?_
    refine sq_nil ?_
    refine ex_then ?_
    refine cw_seq ?_
    refine cw_region ?_
    refine sq_r (ry_move rfl) ?_
    refine sq_r (ry_move rfl) ?_
    refine sq_y (yl_fcall rfl rfl (fun w1 hw1 => hF w1 hw1 ((i + j) / 2) (by omega))) ?_
    refine sq_r (ry_not rfl) ?_
    refine sq_nil ?_
    refine ex_then ?_
    refine cw_cond rfl (fun h1 => ?_) (fun h1 => ?_)
    · try simp only [Bool.and_eq_true, Bool.or_eq_true, Bool.and_eq_false_iff, Bool.or_eq_false_iff, Bool.not_eq_true', Bool.not_eq_false', decide_eq_true_eq, decide_eq_false_iff_not, Bool.not_eq_true, Bool.not_eq_false] at h1
      refine cw_region ?_
      refine sq_r (ry_move rfl) ?_
      refine sq_r (ry_add rfl rfl (by omega)) ?_
      refine sq_r (ry_assign rfl) ?_
      refine sq_nil ?_
      refine ex_block ?_
      exact ex_again (x := (i, j)) ((i + j) / 2 + 1, j) ⟨by first | omega | (simp only []; omega), hi2, by rw [← hi3, bsl_step (show i < j by first | omega | (simp only []; omega)) (by first | omega | (simp only []; omega)), if_neg (by rw [h1]; simp)]⟩ (by simp only; omega) (Sub.cons rfl (Sub.cons rfl (Sub.cons rfl (Sub.nil _)))) (fun w hw => Keep.mem hw)
    · try simp only [Bool.and_eq_true, Bool.or_eq_true, Bool.and_eq_false_iff, Bool.or_eq_false_iff, Bool.not_eq_true', Bool.not_eq_false', decide_eq_true_eq, decide_eq_false_iff_not, Bool.not_eq_true, Bool.not_eq_false] at h1
      refine cw_region ?_
      refine sq_r (ry_move rfl) ?_
      refine sq_r (ry_assign rfl) ?_
      refine sq_nil ?_
      refine ex_block ?_
      exact ex_again (x := (i, j)) (i, (i + j) / 2) ⟨by first | omega | (simp only []; omega), by first | omega | (simp only []; omega), by rw [← hi3, bsl_step (show i < j by first | omega | (simp only []; omega)) (by first | omega | (simp only []; omega)), if_pos h1]⟩ (by simp only; omega) (Sub.cons rfl (Sub.cons rfl (Sub.cons rfl (Sub.nil _)))) (fun w hw => Keep.mem hw)
  · try simp only [Bool.and_eq_true, Bool.or_eq_true, Bool.and_eq_false_iff, Bool.or_eq_false_iff, Bool.not_eq_true', Bool.not_eq_false', decide_eq_true_eq, decide_eq_false_iff_not, Bool.not_eq_true, Bool.not_eq_false] at h0
    refine cw_exit ?_
    refine ex_pass_exit ?_
    refine ex_pass_exit ?_
    refine ex_block_hit ?_
    refine ex_then ?_
    refine cw_seq ?_
    refine cw_region ?_
    refine sq_r (ry_move rfl) ?_
    refine sq_r (ry_assign rfl) ?_
    refine sq_nil ?_
    refine ex_then ?_
    refine cw_ret ?_
    refine ex_ret (.inl rfl) (res_1 rfl (rv_tmp rfl)) (fun w1 hw => ?_)
    exact ⟨congrArg (fun b => Ending.returned (Value.int .i64 b)) ((by rw [← hi3, bsl_stop (by omega) (by omega)])), Keep.mem hw⟩

set_option maxRecDepth 20000 in
theorem tplace_c (w : World) (t : Sv) (ts : List Rt) (p : Pfx) (ht : Lies rcells 19 (hp w) t ts) (hpre : ts.length ≤ 1000000) : Calls Try.prog 84 #[t.val, .agg (pcells p)] w fun e w' => e = .returned (.tuple #[.int .i64 ((placeN ts p : Nat) : Int), .bool (placeB ts p)]) ∧ Mem w [] w' := by
  have ght : Gv w t rcells 19 ts := ⟨ht⟩
  refine calls_of (args := [_, _]) Try.func84 rfl Try.ntmps84 rfl ?_
  change Cw _ _ _ _ _ [(0, t.val), (1, .agg (pcells p))] []
  refine cw_seq ?_
  refine cw_region ?_
  refine sq_box rfl fun b2 => ?_
  refine sq_boxA rfl fun b3 => ?_
  refine sq_r (ry_assign rfl) ?_
  refine sq_r (ry_assign rfl) ?_
  refine sq_nil ?_
  refine ex_then ?_
  refine cw_seq ?_
  refine cw_region ?_
  refine sq_r (ry_cellc rfl) ?_
  refine sq_r (ry_lenH rfl) ?_
  refine sq_r (ry_mkfunc (vs := [.pointer (some ⟨b2, 0, none⟩), .pointer (some ⟨b3, 0, none⟩)]) rfl) ?_
  refine sq_y (yl_call (v := .int .i64 (placeN ts p : Nat)) rfl (fun w1 hw1 => tsearch_c (f := 127) w1 ts.length (behind ts p) #[.pointer (some ⟨b2, 0, none⟩), .pointer (some ⟨b3, 0, none⟩)] (fun w2 hw2 j hj => tplace1_c w2 b2 b3 t ts p j ((holds_blk (b := b2) (cs := t.val.cells) (enc := senc) (xs := [t]) (n := 1) (by rw [Sv.cells_val]; rfl) rfl (by decide) w1 hw1).mono hw2.below) ((holds_blk (b := b3) (cs := pcells p) (enc := pcells) (c := 18) (xs := [p]) (n := 1) (by simp [flatR]) rfl (by decide) w1 hw1).mono hw2.below) (((inferInstance : Hd w _ t rcells 19 ts).h w1 hw1).mono hw2.below) hj) (by omega))) ?_
  refine sq_r (ry_assign rfl) ?_
  refine sq_nil ?_
  refine ex_then ?_
  refine cw_seq ?_
  refine cw_quiet (by kernel_rfl) (by kernel_rfl) ?_
  refine qt_r (ry_move rfl) ?_
  refine qt_r (ry_move rfl) ?_
  refine qt_r (ry_cellc rfl) ?_
  refine qt_r (ry_lenH rfl) ?_
  refine qt_r (ry_int rfl rfl rfl) ?_
  refine qt_r (ry_move rfl) ?_
  refine qt_gt rfl rfl rfl (fun hg => (Ry.yl (ry_cellc rfl))) ?_
  refine qt_gt rfl rfl rfl (fun hg => (Ry.yl (ry_move rfl))) ?_
  refine qt_gt rfl rfl rfl (fun hg => (Ry.yl (ry_idxH (ev_c hg rfl) (ev_c hg rfl) (placeN ts p) rfl (by simp only [Bool.and_eq_true, Bool.or_eq_true, Bool.and_eq_false_iff, Bool.or_eq_false_iff, Bool.not_eq_true', Bool.not_eq_false', decide_eq_true_eq, decide_eq_false_iff_not, Bool.not_eq_true, Bool.not_eq_false] at hg; omega)))) ?_
  refine qt_gt rfl rfl rfl (fun hg => (Ry.yl (ry_field (ev_c hg rfl) rfl))) ?_
  refine qt_gt rfl rfl rfl (fun hg => (Ry.yl (ry_elempH (j := 0) (ev_c hg rfl) (placeN ts p) (get_getD (xs := ts) (i := (placeN ts p)) (d := zroute) (by simp only [Bool.and_eq_true, Bool.or_eq_true, Bool.and_eq_false_iff, Bool.or_eq_false_iff, Bool.not_eq_true', Bool.not_eq_false', decide_eq_true_eq, decide_eq_false_iff_not, Bool.not_eq_true, Bool.not_eq_false] at hg; omega)) rfl (by decide)))) ?_
  refine qt_gt rfl rfl rfl (fun hg => (Ry.yl (ry_whole rfl))) ?_
  refine qt_gt rfl rfl rfl (fun hg => (Ry.yl (ry_eq (ev_c hg rfl) (ev_c hg rfl)))) ?_
  refine qt_r (ry_and rfl rfl rfl) ?_
  refine qt_r (ry_assign rfl) ?_
  refine qt_r (ry_assign rfl) ?_
  refine qt_nil ?_
  refine ex_then ?_
  refine cw_ret ?_
  refine ex_ret (.inl rfl) (res_2 rfl (rv_tmp rfl) (rv_tmp rfl)) (fun w1 hw => ?_)
  exact ⟨(by rw [placeB_eq]), Keep.mem hw⟩
instance tplace_i {w0 : World} {L : List Ent} {t : Sv} {ts : List Rt} {p : Pfx} [ht : HdE w0 L rcells 19 t ts] : FnQ Try.prog 84 w0 L [t.val, .agg (pcells p)] (.tuple #[.int .i64 ((placeN ts p : Nat) : Int), .bool (placeB ts p)]) (ts.length ≤ 1000000) := ⟨fun hp w hw => tplace_c w t ts p (ht.h w hw) hp⟩

end Go.Proofs.Ytajhlgdapiihgaa

/- The best route of a table: walked. -/
set_option linter.unusedSimpArgs false
set_option linter.unusedVariables false
namespace Go.Proofs.Ytajhlgdapiihgaa
open Go.Eng Go.Kb
set_option maxRecDepth 20000 in
theorem tbest_c (w : World) (t : Sv) (ts : List Rt) (k : Key) (bits : Int) (ht : Lies rcells 19 (hp w) t ts) : Calls Try.prog 37 #[t.val, .agg (kcells k), .int .i64 bits] w fun e w' => e = .returned (.tuple #[.agg (rcells (bestR ts k bits)), .int .i64 (bestE ts k bits)]) ∧ Mem w [] w' := by
  have ght : Gv w t rcells 19 ts := ⟨ht⟩
  refine calls_of (args := [_, _, _]) Try.func37 rfl Try.ntmps37 rfl ?_
  change Cw _ _ _ _ _ [(0, t.val), (1, .agg (kcells k)), (2, .int .i64 bits)] []
  refine cw_seq ?_
  refine cw_region ?_
  refine sq_boxA rfl fun b4 => ?_
  refine sq_allocA fun b6 => ?_
  refine sq_r (ry_assign rfl) ?_
  refine sq_nil ?_
  refine ex_then ?_
  refine cw_seq ?_
  refine cw_seq ?_
  refine cw_region ?_
  refine sq_r (ry_move rfl) ?_
  refine sq_y (yl_callC rfl trivial) ?_
  refine sq_r (ry_not rfl) ?_
  refine sq_r (ry_move rfl) ?_
  refine sq_gf rfl rfl rfl (fun hg => (Ry.yl (ry_move rfl))) ?_
  refine sq_gf rfl rfl rfl (fun hg => (Ry.yl (ry_move rfl))) ?_
  refine sq_gf rfl rfl rfl (fun hg => (Ry.yl (ry_whole rfl))) ?_
  refine sq_gf rfl rfl rfl (fun hg => (Ry.yl (ry_buildc (evp_cons (ev_c hg rfl) (evp_cons (ev_c hg rfl) (evp_cons (ev_c hg rfl) evp_nil)))))) ?_
  refine sq_gf rfl rfl rfl (fun hg => yl_callC (evl_cons (ev_c hg rfl) evl_nil) trivial) ?_
  refine sq_gf rfl rfl rfl (fun hg => (Ry.yl (ry_not (ev_c hg rfl)))) ?_
  refine sq_r (ry_or rfl rfl rfl) ?_
  refine sq_nil ?_
  refine ex_then ?_
  refine cw_cond rfl (fun h0 => ?_) (fun h0 => ?_)
  · try simp only [Bool.and_eq_true, Bool.or_eq_true, Bool.and_eq_false_iff, Bool.or_eq_false_iff, Bool.not_eq_true', Bool.not_eq_false', decide_eq_true_eq, decide_eq_false_iff_not, Bool.not_eq_true, Bool.not_eq_false] at h0
    have hk : bestO ts k bits = false := by rw [bestO]; rcases h0 with h | h; rw [h]; rfl; rw [h]; simp
    refine cw_seq ?_
    refine cw_region ?_
    refine sq_r (ry_buildc rfl) ?_
    refine sq_storeW rfl rfl ?_
    refine sq_r (ry_assign rfl) ?_
    refine sq_nil ?_
    refine ex_then ?_
    refine cw_ret ?_
    refine ex_pass_ret ?_
    refine ex_ret (.inl rfl) (res_2 rfl (rv_agg rfl) (rv_tmp rfl)) (fun w1 hw => ?_)
    exact ⟨(by rw [bestR, if_neg (by rw [hk]; simp), bestE, if_neg (by rw [hk]; simp)]), Keep.mem hw⟩
  · try simp only [Bool.and_eq_true, Bool.or_eq_true, Bool.and_eq_false_iff, Bool.or_eq_false_iff, Bool.not_eq_true', Bool.not_eq_false', decide_eq_true_eq, decide_eq_false_iff_not, Bool.not_eq_true, Bool.not_eq_false] at h0
    have hr : tright ts = true := by simpa using h0.1
    have hk : bestO ts k bits = true := by rw [bestO, hr]; simpa using h0.2
    have hlen := tr_len hr
    have hb : bits = 32 ∨ bits = 128 := ((pmay_iff _).1 (by simpa using h0.2 : pmay ⟨bits, bits, k⟩ = true)).1
    refine cw_skip ?_
    refine ex_then ?_
    refine cw_seq ?_
    refine cw_seq ?_
    refine cw_region ?_
    refine sq_r (ry_move rfl) ?_
    refine sq_r (ry_assign rfl) ?_
    refine sq_nil ?_
    refine ex_then ?_
    refine cw_block ?_
    refine cw_loop (X := Int) (fun zz => [(8, .int .i64 zz), (0, t.val), (2, .int .i64 bits), (4, .pointer (some ⟨b4, 0, none⟩)), (6, .pointer (some ⟨b6, 0, none⟩))]) (fun zz => [blk b6 (rcells zroute) 30, blk b4 (kcells k) 24]) (fun zz => -1 ≤ zz ∧ zz ≤ bits ∧ (zz < 0 → bestF ts k bits bits.toNat = none) ∧ (∀ m : Nat, zz = m → bestF ts k bits bits.toNat = bestF ts k bits m)) (fun zz => (zz + 1).toNat) bits ⟨by first | omega | (simp only []; omega), Int.le_refl _, fun h => by first | omega | (simp only []; omega), fun m h => by rw [h]; rfl⟩ (Sub.cons rfl (Sub.cons rfl (Sub.cons rfl (Sub.cons rfl (Sub.cons rfl (Sub.nil _)))))) (fun w hw => Keep.mem hw) ?_
    rintro n ⟨hn0, hn1, hn2, hn4⟩
    refine cw_seq ?_
    refine cw_seq ?_
    refine cw_region ?_
    refine sq_r (ry_move rfl) ?_
    refine sq_r (ry_int rfl rfl rfl) ?_
    refine sq_nil ?_
    refine ex_then ?_
    refine cw_cond rfl (fun h1 => ?_) (fun h1 => ?_)
    · try simp only [Bool.and_eq_true, Bool.or_eq_true, Bool.and_eq_false_iff, Bool.or_eq_false_iff, Bool.not_eq_true', Bool.not_eq_false', decide_eq_true_eq, decide_eq_false_iff_not, Bool.not_eq_true, Bool.not_eq_false] at h1
      obtain ⟨m, rfl⟩ : ∃ m : Nat, n = (m : Int) := ⟨n.toNat, by omega⟩
      refine cw_skip ?_
      refine ex_then ?_
      refine cw_seq ?_
      refine cw_block ?_
      refine cw_seq ?_
      refine cw_region ?_
      refine sq_r (ry_move rfl) ?_
      refine sq_r (ry_move rfl) ?_
      refine sq_r (ry_whole rfl) ?_
      refine sq_r (ry_move rfl) ?_
      refine sq_y (yl_callC rfl trivial) ?_
      refine sq_r (ry_buildc rfl) ?_
      refine sq_allocA fun b9 => ?_
      refine sq_storeW rfl rfl ?_
      refine sq_nil ?_
      refine ex_then ?_
      refine cw_seq ?_
      refine cw_region ?_
      refine sq_r (ry_move rfl) ?_
      refine sq_r (ry_whole rfl) ?_
      refine sq_y (yl_callC rfl (by omega)) ?_
      refine sq_r (ry_move rfl) ?_
      refine sq_r (ry_extract (v := .int .i64 ((placeN ts (⟨bits, ((m : Nat) : Int), (kcut k ((m : Nat) : Int))⟩ : Pfx) : Nat) : Int)) rfl rfl) ?_
      refine sq_r (ry_extract (v := .bool (placeB ts (⟨bits, ((m : Nat) : Int), (kcut k ((m : Nat) : Int))⟩ : Pfx))) rfl rfl) ?_
      refine sq_r (ry_assign rfl) ?_
      refine sq_r (ry_assign rfl) ?_
      refine sq_nil ?_
      refine ex_then ?_
      refine cw_seq ?_
      refine cw_region ?_
      refine sq_r (ry_move rfl) ?_
      refine sq_nil ?_
      refine ex_then ?_
      refine cw_cond rfl (fun h2 => ?_) (fun h2 => ?_)
      · try simp only [Bool.and_eq_true, Bool.or_eq_true, Bool.and_eq_false_iff, Bool.or_eq_false_iff, Bool.not_eq_true', Bool.not_eq_false', decide_eq_true_eq, decide_eq_false_iff_not, Bool.not_eq_true, Bool.not_eq_false] at h2
        have hba : ∃ r, ts[placeN ts ⟨bits, m, kcut k m⟩]? = some r ∧ bestAt ts k bits m = some r := by obtain ⟨r, _, h8, _⟩ := place_in h2; exact ⟨r, h8, by rw [bestAt, if_pos h2, h8]⟩
        obtain ⟨r, hr1, hr2⟩ := hba
        have hbs : bestF ts k bits bits.toNat = some r := by rw [hn4 m rfl]; cases m with | zero => exact hr2 | succ m => rw [bestF, hr2]
        refine cw_seq ?_
        refine cw_region ?_
        refine sq_r (ry_move rfl) ?_
        refine sq_r (ry_move rfl) ?_
        refine sq_r (ry_idxH rfl rfl (placeN ts ⟨bits, m, kcut k m⟩) (by omega) (List.getElem?_eq_some_iff.1 hr1).1) ?_
        refine sq_r (ry_elemH rfl (placeN ts ⟨bits, m, kcut k m⟩) hr1 rfl) ?_
        refine sq_storeW rfl rfl ?_
        refine sq_r (ry_assign rfl) ?_
        refine sq_nil ?_
        refine ex_then ?_
        refine cw_ret ?_
        refine ex_block_ret ?_
        refine ex_pass_ret ?_
        refine ex_pass_ret ?_
        refine ex_block_ret ?_
        refine ex_pass_ret ?_
        refine ex_ret (.inl rfl) (res_2 rfl (rv_agg rfl) (rv_tmp rfl)) (fun w1 hw => ?_)
        exact ⟨(by rw [bestR, if_pos hk, bestE, if_pos hk, hbs]; rfl), Keep.mem hw⟩
      · try simp only [Bool.and_eq_true, Bool.or_eq_true, Bool.and_eq_false_iff, Bool.or_eq_false_iff, Bool.not_eq_true', Bool.not_eq_false', decide_eq_true_eq, decide_eq_false_iff_not, Bool.not_eq_true, Bool.not_eq_false] at h2
        have hba : bestAt ts k bits m = none := by rw [bestAt, if_neg (by rw [h2]; simp)]
        refine cw_skip ?_
        refine ex_block ?_
        refine ex_then ?_
        refine cw_region ?_
        refine sq_r (ry_move rfl) ?_
        refine sq_r (ry_sub rfl rfl (by omega)) ?_
        refine sq_r (ry_assign rfl) ?_
        refine sq_nil ?_
        exact ex_again (x := ((m : Nat) : Int)) ((m : Int) - 1) ⟨by first | omega | (simp only []; omega), by first | omega | (simp only []; omega), fun h => by obtain rfl : m = 0 := (by first | omega | (simp only []; omega)); rw [hn4 0 rfl]; exact hba, fun m2 h => by obtain rfl : m = m2 + 1 := (by first | omega | (simp only []; omega)); rw [hn4 _ rfl, bestF, hba]⟩ (by first | omega | (simp only []; omega)) (Sub.cons rfl (Sub.cons rfl (Sub.cons rfl (Sub.cons rfl (Sub.cons rfl (Sub.nil _)))))) (fun w hw => Keep.mem hw)
    · try simp only [Bool.and_eq_true, Bool.or_eq_true, Bool.and_eq_false_iff, Bool.or_eq_false_iff, Bool.not_eq_true', Bool.not_eq_false', decide_eq_true_eq, decide_eq_false_iff_not, Bool.not_eq_true, Bool.not_eq_false] at h1
      have hbn : bestF ts k bits bits.toNat = none := hn2 (by omega)
      refine cw_exit ?_
      refine ex_pass_exit ?_
      refine ex_pass_exit ?_
      refine ex_block_hit ?_
      refine ex_then ?_
      refine cw_seq ?_
      refine cw_region ?_
      refine sq_r (ry_buildc rfl) ?_
      refine sq_storeW rfl rfl ?_
      refine sq_r (ry_assign rfl) ?_
      refine sq_nil ?_
      refine ex_then ?_
      refine cw_ret ?_
      refine ex_ret (.inl rfl) (res_2 rfl (rv_agg rfl) (rv_tmp rfl)) (fun w1 hw => ?_)
      exact ⟨(by rw [bestR, if_pos hk, bestE, if_pos hk, hbn]; rfl), Keep.mem hw⟩
instance tbest_i {w0 : World} {L : List Ent} {t : Sv} {ts : List Rt} {k : Key} {bits : Int} [ht : HdE w0 L rcells 19 t ts] : FnQ Try.prog 37 w0 L [t.val, .agg (kcells k), .int .i64 bits] (.tuple #[.agg (rcells (bestR ts k bits)), .int .i64 (bestE ts k bits)]) (True) := ⟨fun hp w hw => tbest_c w t ts k bits (ht.h w hw)⟩

end Go.Proofs.Ytajhlgdapiihgaa

/- Same tries: walked. -/
set_option linter.unusedSimpArgs false
set_option linter.unusedVariables false
namespace Go.Proofs.Ytajhlgdapiihgaa
open Go.Eng Go.Kb
theorem add8 (x y : Nat) : IntKind.u8.wrap (((x : Nat) : Int) + (((b8 y).toNat : Nat) : Int)) = (((x + y) % 256 : Nat) : Int) := by
  rw [b8_toNat]; simp [IntKind.wrap, IntKind.bits, IntKind.signed]
set_option maxRecDepth 20000 in
theorem rsame4_c (w : World) (a : Tri) (b : Tri) (ha : Deep.good (hp w) a) (hb : Deep.good (hp w) b) : Calls Try.prog 51 #[.agg (tcells a), .agg (tcells b)] w fun e w' => e = .returned (.bool (decide (a.bits = b.bits) && decide (a.ns.xs = b.ns.xs))) ∧ Mem w [] w' := by
  have gha : GvD w a := ⟨ha⟩
  have ghb : GvD w b := ⟨hb⟩
  have hba := ha.1.bd
  have hbb := hb.1.bd
  refine calls_of (args := [_, _]) Try.func51 rfl Try.ntmps51 rfl ?_
  change Cw _ _ _ _ _ [(0, .agg (tcells a)), (1, .agg (tcells b))] []
  refine cw_seq ?_
  refine cw_region ?_
  refine sq_boxA rfl fun b2 => ?_
  refine sq_boxA rfl fun b3 => ?_
  refine sq_r (ry_assign rfl) ?_
  refine sq_nil ?_
  refine ex_then ?_
  refine cw_seq ?_
  refine cw_seq ?_
  refine cw_region ?_
  refine sq_r (ry_field (o' := 0) rfl rfl) ?_
  refine sq_r (ry_cellc rfl) ?_
  refine sq_r (ry_field (o' := 0) rfl rfl) ?_
  refine sq_r (ry_cellc rfl) ?_
  refine sq_r (ry_int rfl rfl rfl) ?_
  refine sq_r (ry_move rfl) ?_
  refine sq_gf rfl rfl rfl (fun hg => (Ry.yl (ry_field (o' := 1) rfl rfl))) ?_
  refine sq_gf rfl rfl rfl (fun hg => (Ry.yl (ry_cellc (ev_c hg rfl)))) ?_
  refine sq_gf rfl rfl rfl (fun hg => (Ry.yl (ry_lenH (ev_c hg rfl)))) ?_
  refine sq_gf rfl rfl rfl (fun hg => (Ry.yl (ry_field (o' := 1) rfl rfl))) ?_
  refine sq_gf rfl rfl rfl (fun hg => (Ry.yl (ry_cellc (ev_c hg rfl)))) ?_
  refine sq_gf rfl rfl rfl (fun hg => (Ry.yl (ry_lenH (ev_c hg rfl)))) ?_
  refine sq_gf rfl rfl rfl (fun hg => (Ry.yl (ry_int (ev_c hg rfl) (ev_c hg rfl) rfl))) ?_
  refine sq_r (ry_or rfl rfl rfl) ?_
  refine sq_nil ?_
  refine ex_then ?_
  refine cw_cond rfl (fun h0 => ?_) (fun h0 => ?_)
  · try simp only [Bool.and_eq_true, Bool.or_eq_true, Bool.and_eq_false_iff, Bool.or_eq_false_iff, Bool.not_eq_true', Bool.not_eq_false', decide_eq_true_eq, decide_eq_false_iff_not, Bool.not_eq_true, Bool.not_eq_false] at h0
    refine cw_seq ?_
    refine cw_region ?_
    refine sq_r (ry_assign rfl) ?_
    refine sq_nil ?_
    refine ex_then ?_
    refine cw_ret ?_
    refine ex_pass_ret ?_
    refine ex_ret (.inl rfl) (res_1 rfl (rv_tmp rfl)) (fun w1 hw => ?_)
    exact ⟨congrArg (fun b => Ending.returned (Value.bool b)) ((by rcases h0 with h | h; (rw [decide_eq_false h, Bool.false_and]); (rw [decide_eq_false (fun e => h (by rw [e]) : ¬ a.ns.xs = b.ns.xs), Bool.and_false]))), Keep.mem hw⟩
  · try simp only [Bool.and_eq_true, Bool.or_eq_true, Bool.and_eq_false_iff, Bool.or_eq_false_iff, Bool.not_eq_true', Bool.not_eq_false', decide_eq_true_eq, decide_eq_false_iff_not, Bool.not_eq_true, Bool.not_eq_false] at h0
    refine cw_skip ?_
    refine ex_then ?_
    refine cw_seq ?_
    refine cw_seq ?_
    refine cw_region ?_
    refine sq_r (ry_assign rfl) ?_
    refine sq_nil ?_
    refine ex_then ?_
    refine cw_block ?_
    refine cw_loop (X := Nat) (fun zz => [(5, .int .i64 (zz : Nat)), (2, .pointer (some ⟨b2, 0, none⟩)), (3, .pointer (some ⟨b3, 0, none⟩))]) (fun zz => [blk b3 (tcells b) 76, blk b2 (tcells a) 76]) (fun zz => zz ≤ a.ns.xs.length ∧ ∀ j, j < zz → a.ns.xs[j]? = b.ns.xs[j]?) (fun zz => a.ns.xs.length - zz) 0 ⟨by first | omega | (simp only []; omega), fun j h => by first | omega | (simp only []; omega)⟩ (Sub.cons rfl (Sub.cons rfl (Sub.cons rfl (Sub.nil _)))) (fun w hw => Keep.mem hw) ?_
    rintro i ⟨hi1, hi2⟩
    refine cw_seq ?_
    refine cw_seq ?_
    refine cw_region ?_
    refine sq_r (ry_move rfl) ?_
    refine sq_r (ry_field (o' := 1) rfl rfl) ?_
    refine sq_r (ry_cellc rfl) ?_
    refine sq_r (ry_lenH rfl) ?_
    refine sq_r (ry_int rfl rfl rfl) ?_
    refine sq_nil ?_
    refine ex_then ?_
    refine cw_cond rfl (fun h1 => ?_) (fun h1 => ?_)
    · try simp only [Bool.and_eq_true, Bool.or_eq_true, Bool.and_eq_false_iff, Bool.or_eq_false_iff, Bool.not_eq_true', Bool.not_eq_false', decide_eq_true_eq, decide_eq_false_iff_not, Bool.not_eq_true, Bool.not_eq_false] at h1
      refine cw_skip ?_
      refine ex_then ?_
      refine cw_seq ?_
      refine cw_block ?_
      refine cw_seq ?_
      refine cw_quiet (by kernel_rfl) (by kernel_rfl) ?_
      refine qt_r (ry_field (o' := 1) rfl rfl) ?_
      refine qt_r (ry_cellc rfl) ?_
      refine qt_r (ry_move rfl) ?_
      obtain ⟨u, hu⟩ := get_some (xs := a.ns.xs) (i := i) (by omega)
      refine qt_r (ry_idxH rfl rfl i rfl (by omega)) ?_
      refine qt_r (ry_elemH rfl i hu rfl) ?_
      refine qt_r (ry_field (o' := 1) rfl rfl) ?_
      refine qt_r (ry_cellc rfl) ?_
      refine qt_r (ry_move rfl) ?_
      obtain ⟨v, hv⟩ := get_some (xs := b.ns.xs) (i := i) (by omega)
      refine qt_r (ry_idxH rfl rfl i rfl (by omega)) ?_
      refine qt_r (ry_elemH rfl i hv rfl) ?_
      refine qt_r (ry_ne rfl rfl) ?_
      refine qt_nil ?_
      refine ex_then ?_
      refine cw_cond rfl (fun h2 => ?_) (fun h2 => ?_)
      · try simp only [Bool.and_eq_true, Bool.or_eq_true, Bool.and_eq_false_iff, Bool.or_eq_false_iff, Bool.not_eq_true', Bool.not_eq_false', decide_eq_true_eq, decide_eq_false_iff_not, Bool.not_eq_true, Bool.not_eq_false] at h2
        refine cw_seq ?_
        refine cw_region ?_
        refine sq_r (ry_assign rfl) ?_
        refine sq_nil ?_
        refine ex_then ?_
        refine cw_ret ?_
        refine ex_block_ret ?_
        refine ex_pass_ret ?_
        refine ex_pass_ret ?_
        refine ex_block_ret ?_
        refine ex_pass_ret ?_
        refine ex_ret (.inl rfl) (res_1 rfl (rv_tmp rfl)) (fun w1 hw => ?_)
        exact ⟨congrArg (fun b => Ending.returned (Value.bool b)) ((by rw [decide_eq_false (list_no hu hv h2), Bool.and_false])), Keep.mem hw⟩
      · try simp only [Bool.and_eq_true, Bool.or_eq_true, Bool.and_eq_false_iff, Bool.or_eq_false_iff, Bool.not_eq_true', Bool.not_eq_false', decide_eq_true_eq, decide_eq_false_iff_not, Bool.not_eq_true, Bool.not_eq_false] at h2
        refine cw_skip ?_
        refine ex_block ?_
        refine ex_then ?_
        refine cw_region ?_
        refine sq_r (ry_move rfl) ?_
        refine sq_r (ry_add rfl rfl (by omega)) ?_
        refine sq_r (ry_assign rfl) ?_
        refine sq_nil ?_
        exact ex_again (x := (i)) (i + 1) ⟨by first | omega | (simp only []; omega), fun j hj => if e : j = i then (by subst e; rw [hu, hv, h2]) else hi2 j (by first | omega | (simp only []; omega))⟩ (by first | omega | (simp only []; omega)) (Sub.cons rfl (Sub.cons rfl (Sub.cons rfl (Sub.nil _)))) (fun w hw => Keep.mem hw)
    · try simp only [Bool.and_eq_true, Bool.or_eq_true, Bool.and_eq_false_iff, Bool.or_eq_false_iff, Bool.not_eq_true', Bool.not_eq_false', decide_eq_true_eq, decide_eq_false_iff_not, Bool.not_eq_true, Bool.not_eq_false] at h1
      refine cw_exit ?_
      refine ex_pass_exit ?_
      refine ex_pass_exit ?_
      refine ex_block_hit ?_
      refine ex_then ?_
      refine cw_seq ?_
      refine cw_region ?_
      refine sq_r (ry_assign rfl) ?_
      refine sq_nil ?_
      refine ex_then ?_
      refine cw_ret ?_
      refine ex_ret (.inl rfl) (res_1 rfl (rv_tmp rfl)) (fun w1 hw => ?_)
      exact ⟨congrArg (fun b => Ending.returned (Value.bool b)) ((by rw [decide_eq_true h0.1, decide_eq_true (list_all (by omega) (fun j hj => hi2 j (by omega)))]; rfl)), Keep.mem hw⟩
instance rsame4_i {w0 : World} {L : List Ent} {a : Tri} {b : Tri} [ha : HdD w0 L a] [hb : HdD w0 L b] : FnQ Try.prog 51 w0 L [.agg (tcells a), .agg (tcells b)] (.bool (decide (a.bits = b.bits) && decide (a.ns.xs = b.ns.xs))) (True) := ⟨fun hp w hw => rsame4_c w a b (ha.h w hw) (hb.h w hw)⟩

end Go.Proofs.Ytajhlgdapiihgaa

