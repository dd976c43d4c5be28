/- Small functions of the reference of layer 4, walked. -/
import Derived.Test.YtembaconocgmlaaT3g
import Derived.Test.YtembaconocgmlaaTb
set_option linter.unusedSimpArgs false
set_option linter.unusedVariables false
namespace Go.Proofs.Ytembaconocgmlaa
open Go.Eng Go.Kb
theorem add8 (x y : Nat) : IntKind.u8.wrap (((x : Nat) : Int) + (((b8 y).toNat : Nat) : Int)) = (((x + y) % 256 : Nat) : Int) := by
  rw [b8_toNat]; simp [IntKind.wrap, IntKind.bits, IntKind.signed]
set_option maxRecDepth 20000 in
theorem rlast_c (w : World) (p : Pfx)  (hpre : 0 ≤ p.len ∧ p.len ≤ 1000) : Calls Try.prog 84 #[.agg (pcells p)] w fun e w' => e = .returned (.int .i64 (lastN p : Nat)) ∧ Mem w [] w' := by
  obtain ⟨hp1, hp2⟩ := hpre
  refine calls_of (args := [_]) Try.func84 rfl Try.ntmps84 rfl ?_
  change Cw _ _ _ _ _ [(0, .agg (pcells p))] []
  refine cw_seq ?_
  refine cw_region ?_
  refine sq_boxA rfl fun b1 => ?_
  refine sq_r (ry_assign rfl) ?_
  refine sq_nil ?_
  refine ex_then ?_
  refine cw_seq ?_
  refine cw_seq ?_
  refine cw_region ?_
  refine sq_r (ry_field (o' := 1) rfl rfl) ?_
  refine sq_r (ry_cellc rfl) ?_
  refine sq_r (ry_int rfl rfl rfl) ?_
  refine sq_nil ?_
  refine ex_then ?_
  refine cw_cond rfl (fun h0 => ?_) (fun h0 => ?_)
  · try simp only [Bool.and_eq_true, Bool.or_eq_true, Bool.and_eq_false_iff, Bool.or_eq_false_iff, Bool.not_eq_true', Bool.not_eq_false', decide_eq_true_eq, decide_eq_false_iff_not, Bool.not_eq_true, Bool.not_eq_false] at h0
    refine cw_seq ?_
    refine cw_region ?_
    refine sq_r (ry_assign rfl) ?_
    refine sq_nil ?_
    refine ex_then ?_
    refine cw_ret ?_
    refine ex_pass_ret ?_
    refine ex_ret (.inl rfl) (res_1 rfl (rv_tmp rfl)) (fun w1 hw => ?_)
    exact ⟨congrArg (fun b => Ending.returned (Value.int .i64 b)) ((by rw [lastN_zero (by omega)]; rfl)), Keep.mem hw⟩
  · try simp only [Bool.and_eq_true, Bool.or_eq_true, Bool.and_eq_false_iff, Bool.or_eq_false_iff, Bool.not_eq_true', Bool.not_eq_false', decide_eq_true_eq, decide_eq_false_iff_not, Bool.not_eq_true, Bool.not_eq_false] at h0
    refine cw_skip ?_
    refine ex_then ?_
    refine cw_seq ?_
    refine cw_region ?_
    refine sq_r (ry_field (o' := 1) rfl rfl) ?_
    refine sq_r (ry_cellc rfl) ?_
    refine sq_r (ry_sub rfl rfl (by omega)) ?_
    refine sq_r (ry_quo rfl rfl (by omega) (by omega)) ?_
    refine sq_r (ry_assign rfl) ?_
    refine sq_nil ?_
    refine ex_then ?_
    refine cw_ret ?_
    refine ex_ret (.inl rfl) (res_1 rfl (rv_tmp rfl)) (fun w1 hw => ?_)
    exact ⟨congrArg (fun b => Ending.returned (Value.int .i64 b)) ((by unfold lastN; omega)), Keep.mem hw⟩
instance rlast_i {w0 : World} {L : List Ent} {p : Pfx}  : FnQ Try.prog 84 w0 L [.agg (pcells p)] (.int .i64 (lastN p : Nat)) (0 ≤ p.len ∧ p.len ≤ 1000) := ⟨fun hp w hw => rlast_c w p  hp⟩
set_option maxRecDepth 20000 in
theorem rset4_c (w : World) (k : Key) (n : Nat) (b : Nat)  (hpre : n < 32 ∧ b < 16) : Calls Try.prog 83 #[.agg (kcells k), .int .i64 (n : Nat), .int .i64 (b : Nat)] w fun e w' => e = .returned (.agg (kcells (rset k n b))) ∧ Mem w [] w' := by
  obtain ⟨hp1, hp2⟩ := hpre
  have hkb := kbyte_lt k (n / 2)
  have ei : ((n : Int) / 2).toNat = n / 2 := by omega
  refine calls_of (args := [_, _, _]) Try.func83 rfl Try.ntmps83 rfl ?_
  change Cw _ _ _ _ _ [(0, .agg (kcells k)), (1, .int .i64 (n : Nat)), (2, .int .i64 (b : Nat))] []
  refine cw_seq ?_
  refine cw_region ?_
  refine sq_boxA rfl fun b3 => ?_
  refine sq_allocA fun b6 => ?_
  refine sq_nil ?_
  refine ex_then ?_
  refine cw_seq ?_
  refine cw_seq ?_
  refine cw_region ?_
  refine sq_r (ry_move rfl) ?_
  refine sq_r (ry_remn (p := n) (q := 2) rfl rfl rfl rfl (by omega)) ?_
  refine sq_r (ry_int rfl rfl rfl) ?_
  refine sq_nil ?_
  refine ex_then ?_
  refine cw_cond rfl (fun h0 => ?_) (fun h0 => ?_)
  · try simp only [Bool.and_eq_true, Bool.or_eq_true, Bool.and_eq_false_iff, Bool.or_eq_false_iff, Bool.not_eq_true', Bool.not_eq_false', decide_eq_true_eq, decide_eq_false_iff_not, Bool.not_eq_true, Bool.not_eq_false] at h0
    refine cw_region ?_
    refine sq_r (ry_move rfl) ?_
    refine sq_r (ry_quo rfl rfl (by omega) (by omega)) ?_
    refine sq_r (ry_move rfl) ?_
    refine sq_r (ry_mul rfl rfl (by omega)) ?_
    refine sq_r (ry_conv8 (n := (16 * b)) rfl rfl) ?_
    refine sq_r (ry_idxA1 rfl rfl (by omega) (by omega)) ?_
    refine sq_store (cs' := kcells (rset k n b)) rfl rfl (by rw [kcells_size]; omega) rfl (by rw [ei, b8_toNat, kcells_set k (n / 2) _ (by omega) (by omega), rset, if_pos (by omega)]) ?_
    refine sq_nil ?_
    refine ex_then ?_
    refine cw_seq ?_
    refine cw_region ?_
    refine sq_r (ry_whole rfl) ?_
    refine sq_storeW rfl rfl ?_
    refine sq_nil ?_
    refine ex_then ?_
    refine cw_ret ?_
    refine ex_ret (.inl rfl) (res_1 rfl (rv_agg rfl)) (fun w1 hw => ?_)
    exact ⟨rfl, Keep.mem hw⟩
  · try simp only [Bool.and_eq_true, Bool.or_eq_true, Bool.and_eq_false_iff, Bool.or_eq_false_iff, Bool.not_eq_true', Bool.not_eq_false', decide_eq_true_eq, decide_eq_false_iff_not, Bool.not_eq_true, Bool.not_eq_false] at h0
    refine cw_region ?_
    refine sq_r (ry_move rfl) ?_
    refine sq_r (ry_quo rfl rfl (by omega) (by omega)) ?_
    refine sq_r (ry_idxA1 rfl rfl (by omega) (by omega)) ?_
    refine sq_r (ry_cell rfl (by rw [ei]; exact kcells_get k (n / 2) (by omega))) ?_
    refine sq_r (ry_move rfl) ?_
    refine sq_r (ry_conv8 (n := b) rfl rfl) ?_
    refine sq_r (Ry.to (ry_int rfl rfl rfl) (congrArg (Value.int .u8) (add8 (kbyte k (n / 2)) b))) ?_
    refine sq_r (ry_idxA1 rfl rfl (by omega) (by omega)) ?_
    refine sq_store (cs' := kcells (rset k n b)) rfl rfl (by rw [kcells_size]; omega) rfl (by rw [ei, kcells_set k (n / 2) _ (by omega) (by omega), rset, if_neg (by omega)]) ?_
    refine sq_nil ?_
    refine ex_then ?_
    refine cw_seq ?_
    refine cw_region ?_
    refine sq_r (ry_whole rfl) ?_
    refine sq_storeW rfl rfl ?_
    refine sq_nil ?_
    refine ex_then ?_
    refine cw_ret ?_
    refine ex_ret (.inl rfl) (res_1 rfl (rv_agg rfl)) (fun w1 hw => ?_)
    exact ⟨rfl, Keep.mem hw⟩
instance rset4_i {w0 : World} {L : List Ent} {k : Key} {n : Nat} {b : Nat}  : FnQ Try.prog 83 w0 L [.agg (kcells k), .int .i64 (n : Nat), .int .i64 (b : Nat)] (.agg (kcells (rset k n b))) (n < 32 ∧ b < 16) := ⟨fun hp w hw => rset4_c w k n b  hp⟩
set_option maxRecDepth 20000 in
theorem rsame4_c (w : World) (a : Tri) (b : Tri) (ha : Deep.good (hp w) a) (hb : Deep.good (hp w) b) : Calls Try.prog 59 #[.agg (tcells a), .agg (tcells b)] w fun e w' => e = .returned (.bool (decide (a.bits = b.bits) && decide (a.ns.xs = b.ns.xs))) ∧ Mem w [] w' := by
  have gha : GvD w a := ⟨ha⟩
  have ghb : GvD w b := ⟨hb⟩
  have hba := ha.1.bd
  have hbb := hb.1.bd
  refine calls_of (args := [_, _]) Try.func59 rfl Try.ntmps59 rfl ?_
  change Cw _ _ _ _ _ [(0, .agg (tcells a)), (1, .agg (tcells b))] []
  refine cw_seq ?_
  refine cw_region ?_
  refine sq_boxA rfl fun b2 => ?_
  refine sq_boxA rfl fun b3 => ?_
  refine sq_r (ry_assign rfl) ?_
  refine sq_nil ?_
  refine ex_then ?_
  refine cw_seq ?_
  refine cw_seq ?_
  refine cw_region ?_
  refine sq_r (ry_field (o' := 0) rfl rfl) ?_
  refine sq_r (ry_cellc rfl) ?_
  refine sq_r (ry_field (o' := 0) rfl rfl) ?_
  refine sq_r (ry_cellc rfl) ?_
  refine sq_r (ry_int rfl rfl rfl) ?_
  refine sq_r (ry_move rfl) ?_
  refine sq_gf rfl rfl rfl (fun hg => (Ry.yl (ry_field (o' := 1) rfl rfl))) ?_
  refine sq_gf rfl rfl rfl (fun hg => (Ry.yl (ry_cellc (ev_c hg rfl)))) ?_
  refine sq_gf rfl rfl rfl (fun hg => (Ry.yl (ry_lenH (ev_c hg rfl)))) ?_
  refine sq_gf rfl rfl rfl (fun hg => (Ry.yl (ry_field (o' := 1) rfl rfl))) ?_
  refine sq_gf rfl rfl rfl (fun hg => (Ry.yl (ry_cellc (ev_c hg rfl)))) ?_
  refine sq_gf rfl rfl rfl (fun hg => (Ry.yl (ry_lenH (ev_c hg rfl)))) ?_
  refine sq_gf rfl rfl rfl (fun hg => (Ry.yl (ry_int (ev_c hg rfl) (ev_c hg rfl) rfl))) ?_
  refine sq_r (ry_or rfl rfl rfl) ?_
  refine sq_nil ?_
  refine ex_then ?_
  refine cw_cond rfl (fun h0 => ?_) (fun h0 => ?_)
  · try simp only [Bool.and_eq_true, Bool.or_eq_true, Bool.and_eq_false_iff, Bool.or_eq_false_iff, Bool.not_eq_true', Bool.not_eq_false', decide_eq_true_eq, decide_eq_false_iff_not, Bool.not_eq_true, Bool.not_eq_false] at h0
    refine cw_seq ?_
    refine cw_region ?_
    refine sq_r (ry_assign rfl) ?_
    refine sq_nil ?_
    refine ex_then ?_
    refine cw_ret ?_
    refine ex_pass_ret ?_
    refine ex_ret (.inl rfl) (res_1 rfl (rv_tmp rfl)) (fun w1 hw => ?_)
    exact ⟨congrArg (fun b => Ending.returned (Value.bool b)) ((by rcases h0 with h | h; (rw [decide_eq_false h, Bool.false_and]); (rw [decide_eq_false (fun e => h (by rw [e]) : ¬ a.ns.xs = b.ns.xs), Bool.and_false]))), Keep.mem hw⟩
  · try simp only [Bool.and_eq_true, Bool.or_eq_true, Bool.and_eq_false_iff, Bool.or_eq_false_iff, Bool.not_eq_true', Bool.not_eq_false', decide_eq_true_eq, decide_eq_false_iff_not, Bool.not_eq_true, Bool.not_eq_false] at h0
    refine cw_skip ?_
    refine ex_then ?_
    refine cw_seq ?_
    refine cw_seq ?_
    refine cw_region ?_
    refine sq_r (ry_assign rfl) ?_
    refine sq_nil ?_
    refine ex_then ?_
    refine cw_block ?_
    refine cw_loop (X := Nat) (fun zz => [(5, .int .i64 (zz : Nat)), (2, .pointer (some ⟨b2, 0, none⟩)), (3, .pointer (some ⟨b3, 0, none⟩))]) (fun zz => [blk b3 (tcells b) 86, blk b2 (tcells a) 86]) (fun zz => zz ≤ a.ns.xs.length ∧ ∀ j, j < zz → a.ns.xs[j]? = b.ns.xs[j]?) (fun zz => a.ns.xs.length - zz) 0 ⟨by first | omega | (simp only []; omega), fun j h => by first | omega | (simp only []; omega)⟩ (Sub.cons rfl (Sub.cons rfl (Sub.cons rfl (Sub.nil _)))) (fun w hw => Keep.mem hw) ?_
    rintro i ⟨hi1, hi2⟩
    refine cw_seq ?_
    refine cw_seq ?_
    refine cw_region ?_
    refine sq_r (ry_move rfl) ?_
    refine sq_r (ry_field (o' := 1) rfl rfl) ?_
    refine sq_r (ry_cellc rfl) ?_
    refine sq_r (ry_lenH rfl) ?_
    refine sq_r (ry_int rfl rfl rfl) ?_
    refine sq_nil ?_
    refine ex_then ?_
    refine cw_cond rfl (fun h1 => ?_) (fun h1 => ?_)
    · try simp only [Bool.and_eq_true, Bool.or_eq_true, Bool.and_eq_false_iff, Bool.or_eq_false_iff, Bool.not_eq_true', Bool.not_eq_false', decide_eq_true_eq, decide_eq_false_iff_not, Bool.not_eq_true, Bool.not_eq_false] at h1
      refine cw_skip ?_
      refine ex_then ?_
      refine cw_seq ?_
      refine cw_block ?_
      refine cw_seq ?_
      refine cw_quiet (by kernel_rfl) (by kernel_rfl) ?_
      refine qt_r (ry_field (o' := 1) rfl rfl) ?_
      refine qt_r (ry_cellc rfl) ?_
      refine qt_r (ry_move rfl) ?_
      obtain ⟨u, hu⟩ := get_some (xs := a.ns.xs) (i := i) (by omega)
      refine qt_r (ry_idxH rfl rfl i rfl (by omega)) ?_
      refine qt_r (ry_elemH rfl i hu rfl) ?_
      refine qt_r (ry_field (o' := 1) rfl rfl) ?_
      refine qt_r (ry_cellc rfl) ?_
      refine qt_r (ry_move rfl) ?_
      obtain ⟨v, hv⟩ := get_some (xs := b.ns.xs) (i := i) (by omega)
      refine qt_r (ry_idxH rfl rfl i rfl (by omega)) ?_
      refine qt_r (ry_elemH rfl i hv rfl) ?_
      refine qt_r (ry_ne rfl rfl) ?_
      refine qt_nil ?_
      refine ex_then ?_
      refine cw_cond rfl (fun h2 => ?_) (fun h2 => ?_)
      · try simp only [Bool.and_eq_true, Bool.or_eq_true, Bool.and_eq_false_iff, Bool.or_eq_false_iff, Bool.not_eq_true', Bool.not_eq_false', decide_eq_true_eq, decide_eq_false_iff_not, Bool.not_eq_true, Bool.not_eq_false] at h2
        refine cw_seq ?_
        refine cw_region ?_
        refine sq_r (ry_assign rfl) ?_
        refine sq_nil ?_
        refine ex_then ?_
        refine cw_ret ?_
        refine ex_block_ret ?_
        refine ex_pass_ret ?_
        refine ex_pass_ret ?_
        refine ex_block_ret ?_
        refine ex_pass_ret ?_
        refine ex_ret (.inl rfl) (res_1 rfl (rv_tmp rfl)) (fun w1 hw => ?_)
        exact ⟨congrArg (fun b => Ending.returned (Value.bool b)) ((by rw [decide_eq_false (list_no hu hv h2), Bool.and_false])), Keep.mem hw⟩
      · try simp only [Bool.and_eq_true, Bool.or_eq_true, Bool.and_eq_false_iff, Bool.or_eq_false_iff, Bool.not_eq_true', Bool.not_eq_false', decide_eq_true_eq, decide_eq_false_iff_not, Bool.not_eq_true, Bool.not_eq_false] at h2
        refine cw_skip ?_
        refine ex_block ?_
        refine ex_then ?_
        refine cw_region ?_
        refine sq_r (ry_move rfl) ?_
        refine sq_r (ry_add rfl rfl (by omega)) ?_
        refine sq_r (ry_assign rfl) ?_
        refine sq_nil ?_
        exact ex_again (x := (i)) (i + 1) ⟨by first | omega | (simp only []; omega), fun j hj => if e : j = i then (by subst e; rw [hu, hv, h2]) else hi2 j (by first | omega | (simp only []; omega))⟩ (by first | omega | (simp only []; omega)) (Sub.cons rfl (Sub.cons rfl (Sub.cons rfl (Sub.nil _)))) (fun w hw => Keep.mem hw)
    · try simp only [Bool.and_eq_true, Bool.or_eq_true, Bool.and_eq_false_iff, Bool.or_eq_false_iff, Bool.not_eq_true', Bool.not_eq_false', decide_eq_true_eq, decide_eq_false_iff_not, Bool.not_eq_true, Bool.not_eq_false] at h1
      refine cw_exit ?_
      refine ex_pass_exit ?_
      refine ex_pass_exit ?_
      refine ex_block_hit ?_
      refine ex_then ?_
      refine cw_seq ?_
      refine cw_region ?_
      refine sq_r (ry_assign rfl) ?_
      refine sq_nil ?_
      refine ex_then ?_
      refine cw_ret ?_
      refine ex_ret (.inl rfl) (res_1 rfl (rv_tmp rfl)) (fun w1 hw => ?_)
      exact ⟨congrArg (fun b => Ending.returned (Value.bool b)) ((by rw [decide_eq_true h0.1, decide_eq_true (list_all (by omega) (fun j hj => hi2 j (by omega)))]; rfl)), Keep.mem hw⟩
instance rsame4_i {w0 : World} {L : List Ent} {a : Tri} {b : Tri} [ha : HdD w0 L a] [hb : HdD w0 L b] : FnQ Try.prog 59 w0 L [.agg (tcells a), .agg (tcells b)] (.bool (decide (a.bits = b.bits) && decide (a.ns.xs = b.ns.xs))) (True) := ⟨fun hp w hw => rsame4_c w a b (ha.h w hw) (hb.h w hw)⟩

end Go.Proofs.Ytembaconocgmlaa
