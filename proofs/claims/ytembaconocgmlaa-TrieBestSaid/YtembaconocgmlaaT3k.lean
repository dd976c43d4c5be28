/- The best route of a table: walked. -/
import Derived.Test.YtembaconocgmlaaT3j
set_option linter.unusedSimpArgs false
set_option linter.unusedVariables false
namespace Go.Proofs.Ytembaconocgmlaa
open Go.Eng Go.Kb
set_option maxRecDepth 20000 in
theorem tbest_c (w : World) (t : Sv) (ts : List Rt) (k : Key) (bits : Int) (ht : Lies rcells 19 (hp w) t ts) : Calls Try.prog 64 #[t.val, .agg (kcells k), .int .i64 bits] w fun e w' => e = .returned (.tuple #[.agg (rcells (bestR ts k bits)), .int .i64 (bestE ts k bits)]) ∧ Mem w [] w' := by
  have ght : Gv w t rcells 19 ts := ⟨ht⟩
  refine calls_of (args := [_, _, _]) Try.func64 rfl Try.ntmps64 rfl ?_
  change Cw _ _ _ _ _ [(0, t.val), (1, .agg (kcells k)), (2, .int .i64 bits)] []
  refine cw_seq ?_
  refine cw_region ?_
  refine sq_boxA rfl fun b4 => ?_
  refine sq_allocA fun b6 => ?_
  refine sq_r (ry_assign rfl) ?_
  refine sq_nil ?_
  refine ex_then ?_
  refine cw_seq ?_
  refine cw_seq ?_
  refine cw_region ?_
  refine sq_r (ry_move rfl) ?_
  refine sq_y (yl_callC rfl trivial) ?_
  refine sq_r (ry_not rfl) ?_
  refine sq_r (ry_move rfl) ?_
  refine sq_gf rfl rfl rfl (fun hg => (Ry.yl (ry_move rfl))) ?_
  refine sq_gf rfl rfl rfl (fun hg => (Ry.yl (ry_move rfl))) ?_
  refine sq_gf rfl rfl rfl (fun hg => (Ry.yl (ry_whole rfl))) ?_
  refine sq_gf rfl rfl rfl (fun hg => (Ry.yl (ry_buildc (evp_cons (ev_c hg rfl) (evp_cons (ev_c hg rfl) (evp_cons (ev_c hg rfl) evp_nil)))))) ?_
  refine sq_gf rfl rfl rfl (fun hg => yl_callC (evl_cons (ev_c hg rfl) evl_nil) trivial) ?_
  refine sq_gf rfl rfl rfl (fun hg => (Ry.yl (ry_not (ev_c hg rfl)))) ?_
  refine sq_r (ry_or rfl rfl rfl) ?_
  refine sq_nil ?_
  refine ex_then ?_
  refine cw_cond rfl (fun h0 => ?_) (fun h0 => ?_)
  · try simp only [Bool.and_eq_true, Bool.or_eq_true, Bool.and_eq_false_iff, Bool.or_eq_false_iff, Bool.not_eq_true', Bool.not_eq_false', decide_eq_true_eq, decide_eq_false_iff_not, Bool.not_eq_true, Bool.not_eq_false] at h0
    have hk : bestO ts k bits = false := by rw [bestO]; rcases h0 with h | h; rw [h]; rfl; rw [h]; simp
    refine cw_seq ?_
    refine cw_region ?_
    refine sq_r (ry_buildc rfl) ?_
    refine sq_storeW rfl rfl ?_
    refine sq_r (ry_assign rfl) ?_
    refine sq_nil ?_
    refine ex_then ?_
    refine cw_ret ?_
    refine ex_pass_ret ?_
    refine ex_ret (.inl rfl) (res_2 rfl (rv_agg rfl) (rv_tmp rfl)) (fun w1 hw => ?_)
    exact ⟨(by rw [bestR, if_neg (by rw [hk]; simp), bestE, if_neg (by rw [hk]; simp)]), Keep.mem hw⟩
  · try simp only [Bool.and_eq_true, Bool.or_eq_true, Bool.and_eq_false_iff, Bool.or_eq_false_iff, Bool.not_eq_true', Bool.not_eq_false', decide_eq_true_eq, decide_eq_false_iff_not, Bool.not_eq_true, Bool.not_eq_false] at h0
    have hr : tright ts = true := by simpa using h0.1
    have hk : bestO ts k bits = true := by rw [bestO, hr]; simpa using h0.2
    have hlen := tr_len hr
    have hb : bits = 32 ∨ bits = 128 := ((pmay_iff _).1 (by simpa using h0.2 : pmay ⟨bits, bits, k⟩ = true)).1
    refine cw_skip ?_
    refine ex_then ?_
    refine cw_seq ?_
    refine cw_seq ?_
    refine cw_region ?_
    refine sq_r (ry_move rfl) ?_
    refine sq_r (ry_assign rfl) ?_
    refine sq_nil ?_
    refine ex_then ?_
    refine cw_block ?_
    refine cw_loop (X := Int) (fun zz => [(8, .int .i64 zz), (0, t.val), (2, .int .i64 bits), (4, .pointer (some ⟨b4, 0, none⟩)), (6, .pointer (some ⟨b6, 0, none⟩))]) (fun zz => [blk b6 (rcells zroute) 82, blk b4 (kcells k) 48]) (fun zz => -1 ≤ zz ∧ zz ≤ bits ∧ (zz < 0 → bestF ts k bits bits.toNat = none) ∧ (∀ m : Nat, zz = m → bestF ts k bits bits.toNat = bestF ts k bits m)) (fun zz => (zz + 1).toNat) bits ⟨by first | omega | (simp only []; omega), Int.le_refl _, fun h => by first | omega | (simp only []; omega), fun m h => by rw [h]; rfl⟩ (Sub.cons rfl (Sub.cons rfl (Sub.cons rfl (Sub.cons rfl (Sub.cons rfl (Sub.nil _)))))) (fun w hw => Keep.mem hw) ?_
    rintro n ⟨hn0, hn1, hn2, hn4⟩
    refine cw_seq ?_
    refine cw_seq ?_
    refine cw_region ?_
    refine sq_r (ry_move rfl) ?_
    refine sq_r (ry_int rfl rfl rfl) ?_
    refine sq_nil ?_
    refine ex_then ?_
    refine cw_cond rfl (fun h1 => ?_) (fun h1 => ?_)
    · try simp only [Bool.and_eq_true, Bool.or_eq_true, Bool.and_eq_false_iff, Bool.or_eq_false_iff, Bool.not_eq_true', Bool.not_eq_false', decide_eq_true_eq, decide_eq_false_iff_not, Bool.not_eq_true, Bool.not_eq_false] at h1
      obtain ⟨m, rfl⟩ : ∃ m : Nat, n = (m : Int) := ⟨n.toNat, by omega⟩
      refine cw_skip ?_
      refine ex_then ?_
      refine cw_seq ?_
      refine cw_block ?_
      refine cw_seq ?_
      refine cw_region ?_
      refine sq_r (ry_move rfl) ?_
      refine sq_r (ry_move rfl) ?_
      refine sq_r (ry_whole rfl) ?_
      refine sq_r (ry_move rfl) ?_
      refine sq_y (yl_callC rfl trivial) ?_
      refine sq_r (ry_buildc rfl) ?_
      refine sq_allocA fun b9 => ?_
      refine sq_storeW rfl rfl ?_
      refine sq_nil ?_
      refine ex_then ?_
      refine cw_seq ?_
      refine cw_region ?_
      refine sq_r (ry_move rfl) ?_
      refine sq_r (ry_whole rfl) ?_
      refine sq_y (yl_callC rfl (by omega)) ?_
      refine sq_r (ry_move rfl) ?_
      refine sq_r (ry_extract (v := .int .i64 ((placeN ts (⟨bits, ((m : Nat) : Int), (kcut k ((m : Nat) : Int))⟩ : Pfx) : Nat) : Int)) rfl rfl) ?_
      refine sq_r (ry_extract (v := .bool (placeB ts (⟨bits, ((m : Nat) : Int), (kcut k ((m : Nat) : Int))⟩ : Pfx))) rfl rfl) ?_
      refine sq_r (ry_assign rfl) ?_
      refine sq_r (ry_assign rfl) ?_
      refine sq_nil ?_
      refine ex_then ?_
      refine cw_seq ?_
      refine cw_region ?_
      refine sq_r (ry_move rfl) ?_
      refine sq_nil ?_
      refine ex_then ?_
      refine cw_cond rfl (fun h2 => ?_) (fun h2 => ?_)
      · try simp only [Bool.and_eq_true, Bool.or_eq_true, Bool.and_eq_false_iff, Bool.or_eq_false_iff, Bool.not_eq_true', Bool.not_eq_false', decide_eq_true_eq, decide_eq_false_iff_not, Bool.not_eq_true, Bool.not_eq_false] at h2
        have hba : ∃ r, ts[placeN ts ⟨bits, m, kcut k m⟩]? = some r ∧ bestAt ts k bits m = some r := by obtain ⟨r, _, h8, _⟩ := place_in h2; exact ⟨r, h8, by rw [bestAt, if_pos h2, h8]⟩
        obtain ⟨r, hr1, hr2⟩ := hba
        have hbs : bestF ts k bits bits.toNat = some r := by rw [hn4 m rfl]; cases m with | zero => exact hr2 | succ m => rw [bestF, hr2]
        refine cw_seq ?_
        refine cw_region ?_
        refine sq_r (ry_move rfl) ?_
        refine sq_r (ry_move rfl) ?_
        refine sq_r (ry_idxH rfl rfl (placeN ts ⟨bits, m, kcut k m⟩) (by omega) (List.getElem?_eq_some_iff.1 hr1).1) ?_
        refine sq_r (ry_elemH rfl (placeN ts ⟨bits, m, kcut k m⟩) hr1 rfl) ?_
        refine sq_storeW rfl rfl ?_
        refine sq_r (ry_assign rfl) ?_
        refine sq_nil ?_
        refine ex_then ?_
        refine cw_ret ?_
        refine ex_block_ret ?_
        refine ex_pass_ret ?_
        refine ex_pass_ret ?_
        refine ex_block_ret ?_
        refine ex_pass_ret ?_
        refine ex_ret (.inl rfl) (res_2 rfl (rv_agg rfl) (rv_tmp rfl)) (fun w1 hw => ?_)
        exact ⟨(by rw [bestR, if_pos hk, bestE, if_pos hk, hbs]; rfl), Keep.mem hw⟩
      · try simp only [Bool.and_eq_true, Bool.or_eq_true, Bool.and_eq_false_iff, Bool.or_eq_false_iff, Bool.not_eq_true', Bool.not_eq_false', decide_eq_true_eq, decide_eq_false_iff_not, Bool.not_eq_true, Bool.not_eq_false] at h2
        have hba : bestAt ts k bits m = none := by rw [bestAt, if_neg (by rw [h2]; simp)]
        refine cw_skip ?_
        refine ex_block ?_
        refine ex_then ?_
        refine cw_region ?_
        refine sq_r (ry_move rfl) ?_
        refine sq_r (ry_sub rfl rfl (by omega)) ?_
        refine sq_r (ry_assign rfl) ?_
        refine sq_nil ?_
        exact ex_again (x := ((m : Nat) : Int)) ((m : Int) - 1) ⟨by first | omega | (simp only []; omega), by first | omega | (simp only []; omega), fun h => by obtain rfl : m = 0 := (by first | omega | (simp only []; omega)); rw [hn4 0 rfl]; exact hba, fun m2 h => by obtain rfl : m = m2 + 1 := (by first | omega | (simp only []; omega)); rw [hn4 _ rfl, bestF, hba]⟩ (by first | omega | (simp only []; omega)) (Sub.cons rfl (Sub.cons rfl (Sub.cons rfl (Sub.cons rfl (Sub.cons rfl (Sub.nil _)))))) (fun w hw => Keep.mem hw)
    · try simp only [Bool.and_eq_true, Bool.or_eq_true, Bool.and_eq_false_iff, Bool.or_eq_false_iff, Bool.not_eq_true', Bool.not_eq_false', decide_eq_true_eq, decide_eq_false_iff_not, Bool.not_eq_true, Bool.not_eq_false] at h1
      have hbn : bestF ts k bits bits.toNat = none := hn2 (by omega)
      refine cw_exit ?_
      refine ex_pass_exit ?_
      refine ex_pass_exit ?_
      refine ex_block_hit ?_
      refine ex_then ?_
      refine cw_seq ?_
      refine cw_region ?_
      refine sq_r (ry_buildc rfl) ?_
      refine sq_storeW rfl rfl ?_
      refine sq_r (ry_assign rfl) ?_
      refine sq_nil ?_
      refine ex_then ?_
      refine cw_ret ?_
      refine ex_ret (.inl rfl) (res_2 rfl (rv_agg rfl) (rv_tmp rfl)) (fun w1 hw => ?_)
      exact ⟨(by rw [bestR, if_pos hk, bestE, if_pos hk, hbn]; rfl), Keep.mem hw⟩
instance tbest_i {w0 : World} {L : List Ent} {t : Sv} {ts : List Rt} {k : Key} {bits : Int} [ht : HdE w0 L rcells 19 t ts] : FnQ Try.prog 64 w0 L [t.val, .agg (kcells k), .int .i64 bits] (.tuple #[.agg (rcells (bestR ts k bits)), .int .i64 (bestE ts k bits)]) (True) := ⟨fun hp w hw => tbest_c w t ts k bits (ht.h w hw)⟩

end Go.Proofs.Ytembaconocgmlaa
