/- The order of prefixes, walked. -/
import Derived.Test.YtembaconocgmlaaKeyW
import Derived.Test.YtembaconocgmlaaKeyC
set_option linter.unusedSimpArgs false
set_option linter.unusedVariables false
namespace Go.Proofs.Ytembaconocgmlaa
open Go.Eng Go.Kb
open Go.RowKit

theorem key_cell {w0 w : World} {L : List Ent} {b : Nat} {p : Pfx} {T : TypeId} {i : Nat} (hw : Mem w0 L w) [hh : Has L b (pcells p) T i] (j : Nat) (hj : j < 16) : w.cell? ((⟨b, 2, none⟩ : Addr).add j) = some (.int .u8 (kbyte p.key j)) := by
  rw [Addr.add_none, hw.cell hh.h, pcells_k, kcells_get _ j hj]
theorem bit_less {a b : Key} {n : Nat} (hn : n < 128) (hs : ∀ j, j < n → a.getMsbD j = b.getMsbD j) (hd : ¬ kbit a (n : Int) = kbit b (n : Int)) : kbit a (n : Int) = 0 ↔ a.toNat < b.toNat := by
  rw [kbit_same] at hd
  rw [kbit_nat]
  cases ha : a.getMsbD n <;> cases hb : b.getMsbD n <;> simp [ha, hb] at hd ⊢
  · exact key_lt_of_bit hn hs ha hb
  · have := key_lt_of_bit hn (fun j hj => (hs j hj).symm) hb ha
    omega
theorem pless_eq {p q : Pfx} (h1 : pmay p = true) (h2 : pmay q = true) : pless p q = (if p.bits ≠ q.bits then decide (p.bits = 32) else if p.key ≠ q.key then decide (p.key.toNat < q.key.toNat) else decide (p.len < q.len)) := by
  unfold pless; rw [h1, h2]; rfl

set_option maxRecDepth 20000 in
theorem less_c (p q : Pfx) : PureFn Try.prog 42 [.agg (pcells p), .agg (pcells q)] (.bool (pless p q)) := ⟨fun w => by
  refine calls_of (args := [_, _]) Try.func42 rfl Try.ntmps42 rfl ?_
  change Cw _ _ _ _ _ [(0, .agg (pcells p)), (1, .agg (pcells q))] []
  refine cw_seq ?_
  refine cw_region ?_
  refine sq_boxA rfl fun b2 => ?_
  refine sq_boxA rfl fun b3 => ?_
  refine sq_r (ry_assign rfl) ?_
  refine sq_nil ?_
  refine ex_then ?_
  refine cw_seq ?_
  refine cw_seq ?_
  refine cw_region ?_
  refine sq_r (ry_whole rfl) ?_
  refine sq_y (yl_pure rfl) ?_
  refine sq_r (ry_not rfl) ?_
  refine sq_r (ry_move rfl) ?_
  refine sq_gf rfl rfl rfl (fun hg => (ry_whole rfl).yl) ?_
  refine sq_gf rfl rfl rfl (fun hg => yl_pure (evl_cons (ev_c hg rfl) evl_nil)) ?_
  refine sq_gf rfl rfl rfl (fun hg => (ry_not (ev_c hg rfl)).yl) ?_
  refine sq_r (ry_or rfl rfl rfl) ?_
  refine sq_nil ?_
  refine ex_then ?_
  refine cw_cond rfl (fun h0 => ?_) (fun h0 => ?_)
  · simp at h0
    refine cw_seq ?_
    refine cw_region ?_
    refine sq_r (ry_assign rfl) ?_
    refine sq_nil ?_
    refine ex_then ?_
    refine cw_ret ?_
    refine ex_pass_ret ?_
    refine ex_ret (.inl rfl) (res_tmp rfl rfl) (fun w hw => ?_)
    refine ⟨?_, hw.sub (List.nil_sublist _)⟩
    have : pless p q = false := by unfold pless; cases h1 : pmay p <;> cases h2 : pmay q <;> simp_all
    rw [this]
  · simp at h0
    obtain ⟨m1, m2⟩ := h0
    refine cw_skip ?_
    refine ex_then ?_
    refine cw_seq ?_
    refine cw_seq ?_
    refine cw_region ?_
    refine sq_r (ry_field (o' := 0) rfl rfl) ?_
    refine sq_r (ry_cellc rfl) ?_
    refine sq_r (ry_field (o' := 0) rfl rfl) ?_
    refine sq_r (ry_cellc rfl) ?_
    refine sq_r (ry_int rfl rfl rfl) ?_
    refine sq_nil ?_
    refine ex_then ?_
    refine cw_cond rfl (fun h1 => ?_) (fun h1 => ?_)
    · simp at h1
      refine cw_seq ?_
      refine cw_region ?_
      refine sq_r (ry_field (o' := 0) rfl rfl) ?_
      refine sq_r (ry_cellc rfl) ?_
      refine sq_r (ry_int rfl rfl rfl) ?_
      refine sq_r (ry_assign rfl) ?_
      refine sq_nil ?_
      refine ex_then ?_
      refine cw_ret ?_
      refine ex_pass_ret ?_
      refine ex_ret (.inl rfl) (res_tmp rfl rfl) (fun w hw => ?_)
      exact ⟨by rw [pless_eq m1 m2, if_pos h1], hw.sub (List.nil_sublist _)⟩
    · simp at h1
      refine cw_skip ?_
      refine ex_then ?_
      refine cw_seq ?_
      refine cw_seq ?_
      refine cw_quiet (by kernel_rfl) (by kernel_rfl) ?_
      refine qt_r (ry_field (o' := 2) rfl rfl) ?_
      refine qt_r (ry_sliceA_all rfl) ?_
      refine qt_r (ry_field (o' := 2) rfl rfl) ?_
      refine qt_r (ry_sliceA_all rfl) ?_
      refine qt_y (yl_call rfl (fun w hw => cmp_c p.key q.key _ _ _ _ w (key_cell hw) (key_cell hw))) ?_
      refine qt_r (ry_assign rfl) ?_
      refine qt_nil ?_
      refine ex_then ?_
      refine cw_seq ?_
      refine cw_region ?_
      refine sq_r (ry_move rfl) ?_
      refine sq_r (ry_int rfl rfl rfl) ?_
      refine sq_nil ?_
      refine ex_then ?_
      refine cw_cond rfl (fun h2 => ?_) (fun h2 => ?_)
      · simp at h2
        refine cw_seq ?_
        refine cw_region ?_
        refine sq_r (ry_move rfl) ?_
        refine sq_r (ry_int rfl rfl rfl) ?_
        refine sq_r (ry_assign rfl) ?_
        refine sq_nil ?_
        refine ex_then ?_
        refine cw_ret ?_
        refine ex_pass_ret ?_
        refine ex_ret (.inl rfl) (res_tmp rfl rfl) (fun w hw => ?_)
        exact ⟨by rw [pless_eq m1 m2, if_neg (by simpa using h1), if_pos (fun e => h2 ((kcmp_eq _ _).2 e)), decide_eq_decide.2 (kcmp_lt _ _)], hw.sub (List.nil_sublist _)⟩
      · simp at h2
        refine cw_skip ?_
        refine ex_then ?_
        refine cw_seq ?_
        refine cw_region ?_
        refine sq_r (ry_field (o' := 1) rfl rfl) ?_
        refine sq_r (ry_cellc rfl) ?_
        refine sq_r (ry_field (o' := 1) rfl rfl) ?_
        refine sq_r (ry_cellc rfl) ?_
        refine sq_r (ry_int rfl rfl rfl) ?_
        refine sq_r (ry_assign rfl) ?_
        refine sq_nil ?_
        refine ex_then ?_
        refine cw_ret ?_
        refine ex_ret (.inl rfl) (res_tmp rfl rfl) (fun w hw => ?_)
        exact ⟨by rw [pless_eq m1 m2, if_neg (by simpa using h1), if_neg (by simpa using (kcmp_eq _ _).1 h2)], hw.sub (List.nil_sublist _)⟩⟩
instance less_i (p q : Pfx) : PureFn Try.prog 42 [.agg (pcells p), .agg (pcells q)] (.bool (pless p q)) := less_c p q

set_option maxRecDepth 20000 in
theorem rless_c (p q : Pfx) : PureFn Try.prog 43 [.agg (pcells p), .agg (pcells q)] (.bool (pless p q)) := ⟨fun w => by
  refine calls_of (args := [_, _]) Try.func43 rfl Try.ntmps43 rfl ?_
  change Cw _ _ _ _ _ [(0, .agg (pcells p)), (1, .agg (pcells q))] []
  refine cw_seq ?_
  refine cw_region ?_
  refine sq_boxA rfl fun b2 => ?_
  refine sq_boxA rfl fun b3 => ?_
  refine sq_r (ry_assign rfl) ?_
  refine sq_nil ?_
  refine ex_then ?_
  refine cw_seq ?_
  refine cw_seq ?_
  refine cw_region ?_
  refine sq_r (ry_whole rfl) ?_
  refine sq_y (yl_pure rfl) ?_
  refine sq_r (ry_not rfl) ?_
  refine sq_r (ry_move rfl) ?_
  refine sq_gf rfl rfl rfl (fun hg => (ry_whole rfl).yl) ?_
  refine sq_gf rfl rfl rfl (fun hg => yl_pure (evl_cons (ev_c hg rfl) evl_nil)) ?_
  refine sq_gf rfl rfl rfl (fun hg => (ry_not (ev_c hg rfl)).yl) ?_
  refine sq_r (ry_or rfl rfl rfl) ?_
  refine sq_nil ?_
  refine ex_then ?_
  refine cw_cond rfl (fun h0 => ?_) (fun h0 => ?_)
  · simp at h0
    refine cw_seq ?_
    refine cw_region ?_
    refine sq_r (ry_assign rfl) ?_
    refine sq_nil ?_
    refine ex_then ?_
    refine cw_ret ?_
    refine ex_pass_ret ?_
    refine ex_ret (.inl rfl) (res_tmp rfl rfl) (fun w hw => ?_)
    refine ⟨?_, hw.sub (List.nil_sublist _)⟩
    have : pless p q = false := by unfold pless; cases h1 : pmay p <;> cases h2 : pmay q <;> simp_all
    rw [this]
  · simp at h0
    obtain ⟨m1, m2⟩ := h0
    refine cw_skip ?_
    refine ex_then ?_
    refine cw_seq ?_
    refine cw_seq ?_
    refine cw_region ?_
    refine sq_r (ry_field (o' := 0) rfl rfl) ?_
    refine sq_r (ry_cellc rfl) ?_
    refine sq_r (ry_field (o' := 0) rfl rfl) ?_
    refine sq_r (ry_cellc rfl) ?_
    refine sq_r (ry_int rfl rfl rfl) ?_
    refine sq_nil ?_
    refine ex_then ?_
    refine cw_cond rfl (fun h1 => ?_) (fun h1 => ?_)
    · simp at h1
      refine cw_seq ?_
      refine cw_region ?_
      refine sq_r (ry_field (o' := 0) rfl rfl) ?_
      refine sq_r (ry_cellc rfl) ?_
      refine sq_r (ry_field (o' := 0) rfl rfl) ?_
      refine sq_r (ry_cellc rfl) ?_
      refine sq_r (ry_int rfl rfl rfl) ?_
      refine sq_r (ry_assign rfl) ?_
      refine sq_nil ?_
      refine ex_then ?_
      refine cw_ret ?_
      refine ex_pass_ret ?_
      refine ex_ret (.inl rfl) (res_tmp rfl rfl) (fun w hw => ?_)
      refine ⟨?_, hw.sub (List.nil_sublist _)⟩
      obtain ⟨p1, _⟩ := (pmay_iff p).1 m1
      obtain ⟨q1, _⟩ := (pmay_iff q).1 m2
      rw [pless_eq m1 m2, if_pos h1]
      congr 2; rw [decide_eq_decide]; omega
    · simp at h1
      refine cw_skip ?_
      refine ex_then ?_
      refine cw_seq ?_
      refine cw_seq ?_
      refine cw_region ?_
      refine sq_r (ry_assign rfl) ?_
      refine sq_nil ?_
      refine ex_then ?_
      refine cw_block ?_
      refine cw_loop (X := Int) (fun i => [(5, .int .i64 i), (2, .pointer (some ⟨b2, 0, none⟩)), (3, .pointer (some ⟨b3, 0, none⟩))]) (fun i => [blk b3 (pcells q) 50, blk b2 (pcells p) 50]) (fun i => 0 ≤ i ∧ i ≤ 128 ∧ ∀ j : Nat, (j : Int) < i → p.key.getMsbD j = q.key.getMsbD j) (fun i => (128 - i).toNat) 0 ⟨by omega, by omega, fun j h => by omega⟩ (Sub.cons rfl (Sub.cons rfl (Sub.cons rfl (Sub.nil _)))) (fun w hw => hw) ?_
      rintro i ⟨hi0, hi1, hs⟩
      refine cw_seq ?_
      refine cw_seq ?_
      refine cw_region ?_
      refine sq_r (ry_move rfl) ?_
      refine sq_r (ry_int rfl rfl rfl) ?_
      refine sq_nil ?_
      refine ex_then ?_
      refine cw_cond rfl (fun h2 => ?_) (fun h2 => ?_)
      · have h2 := of_decide_eq_true h2
        refine cw_skip ?_
        refine ex_then ?_
        refine cw_seq ?_
        refine cw_block ?_
        refine cw_seq ?_
        refine cw_quiet (by kernel_rfl) (by kernel_rfl) ?_
        refine qt_r (ry_field (o' := 2) rfl rfl) ?_
        refine qt_r (ry_part rfl) ?_
        refine qt_r (ry_move rfl) ?_
        refine qt_y (yl_pure rfl) ?_
        refine qt_r (ry_field (o' := 2) rfl rfl) ?_
        refine qt_r (ry_part rfl) ?_
        refine qt_r (ry_move rfl) ?_
        refine qt_y (yl_pure rfl) ?_
        refine qt_r (ry_int rfl rfl rfl) ?_
        refine qt_nil ?_
        refine ex_then ?_
        refine cw_cond rfl (fun h3 => ?_) (fun h3 => ?_)
        · simp at h3
          have hd : p.key ≠ q.key := fun e => h3 (by rw [e])
          refine cw_seq ?_
          refine cw_region ?_
          refine sq_r (ry_field (o' := 2) rfl rfl) ?_
          refine sq_r (ry_part rfl) ?_
          refine sq_r (ry_move rfl) ?_
          refine sq_y (yl_pure rfl) ?_
          refine sq_r (ry_int rfl rfl rfl) ?_
          refine sq_r (ry_assign rfl) ?_
          refine sq_nil ?_
          refine ex_then ?_
          refine cw_ret ?_
          refine ex_block_ret ?_
          refine ex_pass_ret ?_
          refine ex_pass_ret ?_
          refine ex_block_ret ?_
          refine ex_pass_ret ?_
          refine ex_ret (.inl rfl) (res_tmp rfl rfl) (fun w hw => ?_)
          refine ⟨?_, hw.sub (List.nil_sublist _)⟩
          rw [pless_eq m1 m2, if_neg (by simpa using h1), if_pos hd]
          congr 2; rw [decide_eq_decide]
          rw [show i = ((i.toNat : Nat) : Int) by omega] at h3 ⊢
          exact bit_less (by omega) (fun j hj => hs j (by omega)) h3
        · simp at h3
          refine cw_skip ?_
          refine ex_block ?_
          refine ex_then ?_
          refine cw_region ?_
          refine sq_r (ry_move rfl) ?_
          refine sq_r (ry_add rfl rfl (by omega)) ?_
          refine sq_r (ry_assign rfl) ?_
          refine sq_nil ?_
          exact ex_again (i + 1) ⟨by omega, by omega, fun j hj => if e : (j : Int) = i then (by rw [← e] at h3; exact kbit_same.1 h3) else hs j (by omega)⟩ (by omega) (Sub.cons rfl (Sub.cons rfl (Sub.cons rfl (Sub.nil _)))) (fun w hw => hw)
      · have h2 := of_decide_eq_false h2
        refine cw_exit ?_
        refine ex_pass_exit ?_
        refine ex_pass_exit ?_
        refine ex_block_hit ?_
        refine ex_then ?_
        refine cw_seq ?_
        refine cw_region ?_
        refine sq_r (ry_field (o' := 1) rfl rfl) ?_
        refine sq_r (ry_cellc rfl) ?_
        refine sq_r (ry_field (o' := 1) rfl rfl) ?_
        refine sq_r (ry_cellc rfl) ?_
        refine sq_r (ry_int rfl rfl rfl) ?_
        refine sq_r (ry_assign rfl) ?_
        refine sq_nil ?_
        refine ex_then ?_
        refine cw_ret ?_
        refine ex_ret (.inl rfl) (res_tmp rfl rfl) (fun w hw => ?_)
        refine ⟨?_, hw.sub (List.nil_sublist _)⟩
        have e : p.key = q.key := key_ext fun j hj => hs j (by omega)
        rw [pless_eq m1 m2, if_neg (by simpa using h1), if_neg (by simpa using e)]⟩
instance rless_i (p q : Pfx) : PureFn Try.prog 43 [.agg (pcells p), .agg (pcells q)] (.bool (pless p q)) := rless_c p q

end Go.Proofs.Ytembaconocgmlaa
