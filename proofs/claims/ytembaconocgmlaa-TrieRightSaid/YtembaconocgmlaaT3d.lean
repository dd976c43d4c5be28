/- A table as a trie: walked. -/
import Derived.Test.YtembaconocgmlaaT3c
set_option linter.unusedSimpArgs false
set_option linter.unusedVariables false
namespace Go.Proofs.Ytembaconocgmlaa
open Go.Eng Go.Kb
set_option maxRecDepth 20000 in
theorem tbuild_c (w : World) (t : Sv) (ts : List Rt) (bits : Int) (ht : Lies rcells 19 (hp w) t ts) : Calls Try.prog 57 #[t.val, .int .i64 bits] w fun e w' => ∃ zz : Tri, e = .returned (.tuple #[.agg (tcells zz), .int .i64 (buildE ts bits)]) ∧ (zz.bits = buildB ts bits ∧ zz.ns.xs = buildN ts bits) ∧ Mem w [Deep.ent zz] w' := by
  have ght : Gv w t rcells 19 ts := ⟨ht⟩
  refine calls_of (args := [_, _]) Try.func57 rfl Try.ntmps57 rfl ?_
  change Cw _ _ _ _ _ [(0, t.val), (1, .int .i64 bits)] []
  refine cw_seq ?_
  refine cw_region ?_
  refine sq_allocA fun b4 => ?_
  refine sq_r (ry_assign rfl) ?_
  refine sq_nil ?_
  refine ex_then ?_
  refine cw_seq ?_
  refine cw_seq ?_
  refine cw_region ?_
  refine sq_r (ry_move rfl) ?_
  refine sq_y (yl_callC rfl trivial) ?_
  refine sq_r (ry_not rfl) ?_
  refine sq_r (ry_move rfl) ?_
  refine sq_gf rfl rfl rfl (fun hg => (Ry.yl (ry_move rfl))) ?_
  refine sq_gf rfl rfl rfl (fun hg => yl_callC (evl_cons (ev_c hg rfl) evl_nil) trivial) ?_
  refine sq_gf rfl rfl rfl (fun hg => (Ry.yl (ry_not (ev_c hg rfl)))) ?_
  refine sq_r (ry_or rfl rfl rfl) ?_
  refine sq_nil ?_
  refine ex_then ?_
  refine cw_cond rfl (fun h0 => ?_) (fun h0 => ?_)
  · try simp only [Bool.and_eq_true, Bool.or_eq_true, Bool.and_eq_false_iff, Bool.or_eq_false_iff, Bool.not_eq_true', Bool.not_eq_false', decide_eq_true_eq, decide_eq_false_iff_not, Bool.not_eq_true, Bool.not_eq_false] at h0
    have hc : ¬ (tright ts = true ∧ (bits = 32 ∨ bits = 128)) := by rintro ⟨h1, h2⟩; rcases h2 with h2 | h2 <;> simp [h1, h2] at h0
    obtain ⟨he1, he2, he3⟩ := buildE_arg hc
    refine cw_seq ?_
    refine cw_region ?_
    refine sq_r (ry_buildc rfl) ?_
    refine sq_storeW rfl rfl ?_
    refine sq_r (ry_assign rfl) ?_
    refine sq_nil ?_
    refine ex_then ?_
    refine cw_ret ?_
    refine ex_pass_ret ?_
    refine ex_ret (.inl rfl) (res_2 rfl (rv_agg rfl) (rv_tmp rfl)) (fun w1 hw => ?_)
    exact ⟨(⟨0, ⟨Sv.none, []⟩⟩ : Tri), by rw [he1], ⟨he2.symm, he3.symm⟩, Mem.nilEnt (τ := Nd) (enc := ncells) (c := 48) (Keep.mem hw : Mem w [] _)⟩
  · try simp only [Bool.and_eq_true, Bool.or_eq_true, Bool.and_eq_false_iff, Bool.or_eq_false_iff, Bool.not_eq_true', Bool.not_eq_false', decide_eq_true_eq, decide_eq_false_iff_not, Bool.not_eq_true, Bool.not_eq_false] at h0
    have hc : tright ts = true ∧ (bits = 32 ∨ bits = 128) := by simpa using h0
    have hlen := tr_len hc.1
    refine cw_skip ?_
    refine ex_then ?_
    refine cw_seq ?_
    refine cw_region ?_
    refine sq_r (ry_move rfl) ?_
    refine sq_makeS (enc := ncells) (n := 1) (cap := 1) Nd.zero rfl rfl rfl rfl rfl (by omega) (by omega) (by omega) fun b19 => ?_
    refine sq_r (ry_build (v := .agg (tcells ⟨bits, ⟨⟨false, b19, 0, 1, 1, none⟩, []⟩⟩)) rfl (tri_build bits _ [])) ?_
    refine sq_r (ry_buildc rfl) ?_
    refine sq_allocA fun b6 => ?_
    refine sq_storeW rfl rfl ?_
    refine sq_nil ?_
    refine ex_then ?_
    refine cw_seq ?_
    refine cw_seq ?_
    refine cw_region ?_
    refine sq_r (ry_move rfl) ?_
    refine sq_r (ry_lenH rfl) ?_
    refine sq_r (ry_move rfl) ?_
    refine sq_nil ?_
    refine ex_then ?_
    refine cw_block ?_
    refine cw_loop (X := Nat × Sv) (fun zz => [(24, .int .i64 (zz.1 : Nat)), (6, .pointer (some ⟨b6, 0, none⟩)), (1, .int .i64 bits), (4, .pointer (some ⟨b4, 0, none⟩)), (22, t.val), (23, .int .i64 (ts.length : Nat))]) (fun zz => [blk b6 (tcells ⟨bits, ⟨zz.2, []⟩⟩) 123, own ncells 48 zz.2 (nodes bits (waysF bits (ts.take zz.1)) (ts.take zz.1)), blk b4 (tcells (⟨0, ⟨Sv.none, []⟩⟩ : Tri)) 86]) (fun zz => zz.1 ≤ ts.length ∧ (waysF bits (ts.take zz.1)).length ≤ 512) (fun zz => ts.length - zz.1) (0, ⟨false, b19, 0, 1, 1, none⟩) ⟨Nat.zero_le _, (by decide : [root].length ≤ 512)⟩ (Sub.cons rfl (Sub.cons rfl (Sub.cons rfl (Sub.cons rfl (Sub.cons rfl (Sub.cons rfl (Sub.nil _))))))) (fun w hw => by rw [show List.replicate 1 Nd.zero = nodes bits [root] [] from (nodes_root bits).symm] at hw; exact (Keep.mem hw : Mem _ [blk b6 (tcells ⟨bits, ⟨⟨false, b19, 0, 1, 1, none⟩, []⟩⟩) 123, own ncells 48 ⟨false, b19, 0, 1, 1, none⟩ (nodes bits [root] []), blk b4 (tcells (⟨0, ⟨Sv.none, []⟩⟩ : Tri)) 86] _)) ?_
    rintro ⟨i, s1⟩ ⟨hi1, hi2⟩
    dsimp only
    simp only at hi1 hi2
    refine cw_seq ?_
    refine cw_region ?_
    refine sq_r (ry_int rfl rfl rfl) ?_
    refine sq_nil ?_
    refine ex_then ?_
    refine cw_seq ?_
    refine cw_cond rfl (fun h1 => ?_) (fun h1 => ?_)
    · try simp only [Bool.and_eq_true, Bool.or_eq_true, Bool.and_eq_false_iff, Bool.or_eq_false_iff, Bool.not_eq_true', Bool.not_eq_false', decide_eq_true_eq, decide_eq_false_iff_not, Bool.not_eq_true, Bool.not_eq_false] at h1
      refine cw_skip ?_
      refine ex_then ?_
      refine cw_seq ?_
      refine cw_block ?_
      refine cw_seq ?_
      refine cw_region ?_
      obtain ⟨e26, he26⟩ := get_some (xs := ts) (i := i) (by omega)
      refine sq_r (ry_idxH rfl rfl i rfl (by omega)) ?_
      refine sq_r (ry_elemH rfl i he26 rfl) ?_
      refine sq_allocA fun b8 => ?_
      refine sq_storeW rfl rfl ?_
      refine sq_nil ?_
      refine ex_then ?_
      refine cw_seq ?_
      refine cw_seq ?_
      refine cw_region ?_
      refine sq_r (ry_field (o' := 0) rfl rfl) ?_
      refine sq_r (ry_field (o' := 0) rfl rfl) ?_
      refine sq_r (ry_cellc rfl) ?_
      refine sq_r (ry_move rfl) ?_
      refine sq_r (ry_int rfl rfl rfl) ?_
      refine sq_nil ?_
      refine ex_then ?_
      refine cw_cond rfl (fun h2 => ?_) (fun h2 => ?_)
      · try simp only [Bool.and_eq_true, Bool.or_eq_true, Bool.and_eq_false_iff, Bool.or_eq_false_iff, Bool.not_eq_true', Bool.not_eq_false', decide_eq_true_eq, decide_eq_false_iff_not, Bool.not_eq_true, Bool.not_eq_false] at h2
        refine cw_exit ?_
        refine ex_pass_exit ?_
        refine ex_block_hit ?_
        refine ex_then ?_
        refine cw_region ?_
        refine sq_r (ry_add rfl rfl (by omega)) ?_
        refine sq_r (ry_move rfl) ?_
        refine sq_nil ?_
        have tk : ts.take (i + 1) = ts.take i ++ [e26] := by obtain ⟨hl, rfl⟩ := List.getElem?_eq_some_iff.1 he26; exact List.take_succ_eq_append_getElem hl
        exact ex_again (x := (i, s1)) (i + 1, s1) ⟨by first | omega | (simp only []; omega), by rw [ways_take he26, addWs, if_neg h2]; exact hi2⟩ (by simp only; omega) (Sub.cons rfl (Sub.cons rfl (Sub.cons rfl (Sub.cons rfl (Sub.cons rfl (Sub.cons rfl (Sub.nil _))))))) (fun w hw => by rw [ways_take he26, addWs, if_neg h2, tk, nodes_skip h2]; exact Keep.mem hw)
      · try simp only [Bool.and_eq_true, Bool.or_eq_true, Bool.and_eq_false_iff, Bool.or_eq_false_iff, Bool.not_eq_true', Bool.not_eq_false', decide_eq_true_eq, decide_eq_false_iff_not, Bool.not_eq_true, Bool.not_eq_false] at h2
        have hme := tr_may hc.1 (List.mem_of_getElem? he26)
        have hWi : WOk (waysF bits (ts.take i)) := ways_ok fun x hx => tr_may hc.1 (List.mem_of_mem_take hx)
        refine cw_skip ?_
        refine ex_then ?_
        refine cw_seq ?_
        refine cw_region ?_
        refine sq_r (ry_whole rfl) ?_
        refine sq_callC rfl ⟨hme, h2, hWi, holds_ways i ts, hi2⟩ fun x34 hp34 => ?_
        refine sq_r (ry_not rfl) ?_
        refine sq_nil ?_
        refine ex_then ?_
        refine cw_cond rfl (fun h3 => ?_) (fun h3 => ?_)
        · try simp only [Bool.and_eq_true, Bool.or_eq_true, Bool.and_eq_false_iff, Bool.or_eq_false_iff, Bool.not_eq_true', Bool.not_eq_false', decide_eq_true_eq, decide_eq_false_iff_not, Bool.not_eq_true, Bool.not_eq_false] at h3
          have hno : ¬ (waysF bits ts).length ≤ 512 := fun h => by have h5 := (ways_mono (bits := bits) (t := ts) (show i + 1 ≤ ts.length by omega)).length_le; rw [List.take_length, ways_take he26, addWs, if_pos h2] at h5; omega
          obtain ⟨he1, he2, he3⟩ := buildE_full hc hno
          refine cw_seq ?_
          refine cw_region ?_
          refine sq_r (ry_buildc rfl) ?_
          refine sq_storeW rfl rfl ?_
          refine sq_r (ry_assign rfl) ?_
          refine sq_nil ?_
          refine ex_then ?_
          refine cw_ret ?_
          refine ex_block_ret ?_
          refine ex_pass_ret ?_
          refine ex_pass_ret ?_
          refine ex_block_ret ?_
          refine ex_pass_ret ?_
          refine ex_ret (.inl rfl) (res_2 rfl (rv_agg rfl) (rv_tmp rfl)) (fun w1 hw => ?_)
          exact ⟨(⟨0, ⟨Sv.none, []⟩⟩ : Tri), by rw [he1], ⟨he2.symm, he3.symm⟩, Mem.nilEnt (τ := Nd) (enc := ncells) (c := 48) (Keep.mem hw : Mem w [] _)⟩
        · try simp only [Bool.and_eq_true, Bool.or_eq_true, Bool.and_eq_false_iff, Bool.or_eq_false_iff, Bool.not_eq_true', Bool.not_eq_false', decide_eq_true_eq, decide_eq_false_iff_not, Bool.not_eq_true, Bool.not_eq_false] at h3
          refine cw_skip ?_
          refine ex_block ?_
          refine ex_then ?_
          refine cw_region ?_
          refine sq_r (ry_add rfl rfl (by omega)) ?_
          refine sq_r (ry_move rfl) ?_
          refine sq_nil ?_
          have tk : ts.take (i + 1) = ts.take i ++ [e26] := by obtain ⟨hl, rfl⟩ := List.getElem?_eq_some_iff.1 he26; exact List.take_succ_eq_append_getElem hl
          have hok := h3
          exact ex_again (x := (i, s1)) (i + 1, x34.1) ⟨by first | omega | (simp only []; omega), by rw [ways_take he26, addWs, if_pos h2]; exact hok⟩ (by simp only; omega) (Sub.cons rfl (Sub.cons rfl (Sub.cons rfl (Sub.cons rfl (Sub.cons rfl (Sub.cons rfl (Sub.nil _))))))) (fun w hw => by rw [ways_take he26, addWs, if_pos h2, tk, ← hp34 hok]; exact Keep.mem hw)
    · try simp only [Bool.and_eq_true, Bool.or_eq_true, Bool.and_eq_false_iff, Bool.or_eq_false_iff, Bool.not_eq_true', Bool.not_eq_false', decide_eq_true_eq, decide_eq_false_iff_not, Bool.not_eq_true, Bool.not_eq_false] at h1
      refine cw_exit ?_
      refine ex_pass_exit ?_
      refine ex_pass_exit ?_
      refine ex_block_hit ?_
      refine ex_then ?_
      refine cw_seq ?_
      refine cw_region ?_
      refine sq_r (ry_field (o' := 0) rfl rfl) ?_
      refine sq_r (ry_part rfl) ?_
      refine sq_storeW rfl rfl ?_
      refine sq_r (ry_assign rfl) ?_
      refine sq_nil ?_
      refine ex_then ?_
      refine cw_ret ?_
      refine ex_ret (.inl rfl) (res_2 rfl (rv_agg rfl) (rv_tmp rfl)) (fun w1 hw => ?_)
      obtain rfl : i = ts.length := by omega
      rw [List.take_length] at hi2 hw
      obtain ⟨he1, he2, he3⟩ := buildE_ok hc hi2
      exact ⟨⟨bits, ⟨s1, nodes bits (waysF bits ts) ts⟩⟩, by rw [he1]; rfl, ⟨he2.symm, he3.symm⟩, (Tr.shut_p (a := (⟨s1, nodes bits (waysF bits ts) ts⟩ : Sl Nd))).mem (Keep.mem hw)⟩
instance tbuild_i {w0 : World} {L : List Ent} {t : Sv} {ts : List Rt} {bits : Int} [ht : HdE w0 L rcells 19 t ts] : FnC Try.prog 57 w0 L [t.val, .int .i64 bits] (Tri) (fun zz => .tuple #[.agg (tcells zz), .int .i64 (buildE ts bits)]) (fun zz => Deep.ent zz :: L) (fun zz => zz.bits = buildB ts bits ∧ zz.ns.xs = buildN ts bits) (True) := ⟨fun hp w hw => (tbuild_c w t ts bits (ht.h w hw)).mono fun e w' ⟨x, h1, h2, h3⟩ => ⟨x, h1, h2, hw.call h3⟩⟩

end Go.Proofs.Ytembaconocgmlaa
