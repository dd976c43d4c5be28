/- A place in a table; the best route: walked. -/
import Derived.Test.YtldkgicmfbofiaaMc
import Derived.Test.YtldkgicmfbofiaaMd
import Derived.Test.YtldkgicmfbofiaaMe
import Derived.Test.YtldkgicmfbofiaaMb
import Derived.Test.YtldkgicmfbofiaaMt
import Derived.Test.YtldkgicmfbofiaaMj

set_option linter.unusedSimpArgs false
set_option linter.unusedVariables false
namespace Go.Proofs.Ytldkgicmfbofiaa
open Go.Eng Go.Kb
instance : Enc pcells 18 := ⟨pcells_size, fun p => (inferInstance : SizeIs (pcells p) 18).one⟩
set_option maxRecDepth 20000 in
theorem tplace1_c (w : World) (b2 b3 : Nat) (s : Sv) (ss : List Rt) (q : Pfx) (j : Nat) (h2 : Lies senc 1 (hp w) ⟨false, b2, 0, 1, 1, none⟩ [s]) (h3 : Lies pcells 18 (hp w) ⟨false, b3, 0, 1, 1, none⟩ [q]) (hs : Lies rcells 19 (hp w) s ss) (hj : j < ss.length) : Calls Try.prog 71 #[.int .i64 (j : Nat), .pointer (some ⟨b2, 0, none⟩), .pointer (some ⟨b3, 0, none⟩)] w fun e w' => e = .returned (.bool (behind ss q j)) ∧ Mem w [] w' := by
 have g2 : Gv w ⟨false, b2, 0, 1, 1, none⟩ senc 1 [s] := ⟨h2⟩
 have g3 : Gv w ⟨false, b3, 0, 1, 1, none⟩ pcells 18 [q] := ⟨h3⟩
 have gs : Gv w s rcells 19 ss := ⟨hs⟩
 refine calls_of (args := [_, _, _]) Try.func71 rfl Try.ntmps71 rfl ?_
 change Cw _ _ _ _ _ [(0, .int .i64 (j : Nat)), (1, .pointer (some ⟨b2, 0, none⟩)), (2, .pointer (some ⟨b3, 0, none⟩))] []
 refine cw_seq ?_
 refine cw_region ?_
 refine sq_r (ry_assign rfl) ?_
 refine sq_nil ?_
 refine ex_then ?_
 refine cw_seq ?_
 refine cw_quiet (by kernel_rfl) (by kernel_rfl) ?_
 refine qt_r (ry_elemcH (s := ⟨false, b2, 0, 1, 1, none⟩) (enc := senc) (c := 1) (xs := [s]) (a := s) (j := 0) (v := s.val) rfl 0 rfl rfl (by decide)) ?_
 refine qt_r (ry_move rfl) ?_
 obtain ⟨r, hr⟩ := get_some (xs := ss) (i := j) (by omega)
 refine qt_r (ry_idxH rfl rfl j rfl (by omega)) ?_
 refine qt_r (ry_field rfl rfl) ?_
 refine qt_r (ry_elempH (j := 0) rfl j hr rfl (by decide)) ?_
 refine qt_r (ry_elemH (s := ⟨false, b3, 0, 1, 1, none⟩) (enc := pcells) (c := 18) (xs := [q]) (a := q) rfl 0 rfl rfl) ?_
 refine qt_y (yl_callC rfl trivial) ?_
 refine qt_r (ry_not rfl) ?_
 refine qt_r (ry_assign rfl) ?_
 refine qt_nil ?_
 refine ex_then ?_
 refine cw_ret ?_
 refine ex_ret (.inl rfl) (res_1 rfl (rv_tmp rfl)) (fun w1 hw => ?_)
 exact ⟨congrArg (fun b => Ending.returned (Value.bool b)) ((by simp only [behind, hr])), Keep.mem hw⟩

set_option maxRecDepth 20000 in
theorem tsearch_c (w : World) (n : Nat) (p : Nat → Bool) (f : FuncId) [hf : IsFn Try.prog f] (caps : Array Value) (hF : ∀ w', Mem w [] w' → ∀ j : Nat, j < n → Calls Try.prog f ([Value.int .i64 (j : Nat)] ++ caps.toList).toArray w' fun e w'' => e = .returned (.bool (p j)) ∧ Mem w' [] w'') (hn : n ≤ 1000000000) : Calls Try.prog 70 #[.int .i64 (n : Nat), .func (.func f) #[] caps] w fun e w' => e = .returned (.int .i64 (bs p n : Nat)) ∧ Mem w [] w' := by
 refine calls_of (args := [_, _]) Try.func70 rfl Try.ntmps70 rfl ?_
 change Cw _ _ _ _ _ [(0, .int .i64 (n : Nat)), (1, .func (.func f) #[] caps)] []
 refine cw_seq ?_
 refine cw_region ?_
 refine sq_r (ry_assign rfl) ?_
 refine sq_nil ?_
 refine ex_then ?_
 refine cw_seq ?_
 refine cw_region ?_
 refine sq_r (ry_move rfl) ?_
 refine sq_r (ry_assign rfl) ?_
 refine sq_r (ry_assign rfl) ?_
 refine sq_nil ?_
 refine ex_then ?_
 refine cw_seq ?_
 refine cw_block ?_
 refine cw_loop (X := Nat × Nat) (fun zz => [(5, .int .i64 (zz.1 : Nat)), (6, .int .i64 (zz.2 : Nat)), (1, .func (.func f) #[] caps)]) (fun zz => []) (fun zz => zz.1 ≤ zz.2 ∧ zz.2 ≤ n ∧ bsl p (n + 1) zz.1 zz.2 = bs p n) (fun zz => zz.2 - zz.1) (0, n) ⟨Nat.zero_le _, Nat.le_refl _, rfl⟩ (Sub.cons rfl (Sub.cons rfl (Sub.cons rfl (Sub.nil _)))) (fun w hw => Keep.mem hw) ?_
 rintro ⟨i, j⟩ ⟨hi1, hi2, hi3⟩
 dsimp only
 simp only at hi1 hi2 hi3
 refine cw_seq ?_
 refine cw_seq ?_
 refine cw_region ?_
 refine sq_r (ry_move rfl) ?_
 refine sq_r (ry_move rfl) ?_
 refine sq_r (ry_int rfl rfl rfl) ?_
 refine sq_nil ?_
 refine ex_then ?_
 refine cw_cond rfl (fun h0 => ?_) (fun h0 => ?_)
 ·
  try simp only [bz0, bz1, bz2, bz3, bz4, bz5, bz6, bz7, bz8, bz9] at h0
  refine cw_skip ?_
  refine ex_then ?_
  refine cw_block ?_
  refine cw_seq ?_
  refine cw_region ?_
  refine sq_r (ry_move rfl) ?_
  refine sq_r (ry_move rfl) ?_
  refine sq_r (ry_add rfl rfl (by omega)) ?_
  refine sq_r (ry_convn (n := i + j) rfl (by simp only [nb]; omega)) ?_
  refine sq_r (ry_shr (p := i + j) rfl rfl (by simp only [nb]; omega) (by omega)) ?_
  refine sq_r (ry_convn (n := (i + j) / 2 ^ 1) rfl (by simp only [nb]; omega)) ?_
  refine sq_r (ry_assign rfl) ?_
  refine sq_nil ?_
  refine ex_then ?_
  refine cw_seq ?_
  refine cw_region ?_
  refine sq_r (ry_move rfl) ?_
  refine sq_r (ry_move rfl) ?_
  refine sq_y (yl_fcall rfl rfl (fun w1 hw1 => hF w1 hw1 ((i + j) / 2) (by omega))) ?_
  refine sq_r (ry_not rfl) ?_
  refine sq_nil ?_
  refine ex_then ?_
  refine cw_cond rfl (fun h1 => ?_) (fun h1 => ?_)
  ·
   try simp only [bz0, bz1, bz2, bz3, bz4, bz5, bz6, bz7, bz8, bz9] at h1
   refine cw_region ?_
   refine sq_r (ry_move rfl) ?_
   refine sq_r (ry_add rfl rfl (by omega)) ?_
   refine sq_r (ry_assign rfl) ?_
   refine sq_nil ?_
   refine ex_block ?_
   exact ex_again (x := (i, j)) ((i + j) / 2 + 1, j) ⟨by first | omega | (simp only []; omega), hi2, by rw [← hi3, bsl_step (show i < j by first | omega | (simp only []; omega)) (by first | omega | (simp only []; omega)), if_neg (by rw [h1]; simp)]⟩ (by simp only; omega) (Sub.cons rfl (Sub.cons rfl (Sub.cons rfl (Sub.nil _)))) (fun w hw => Keep.mem hw)
  ·
   try simp only [bz0, bz1, bz2, bz3, bz4, bz5, bz6, bz7, bz8, bz9] at h1
   refine cw_region ?_
   refine sq_r (ry_move rfl) ?_
   refine sq_r (ry_assign rfl) ?_
   refine sq_nil ?_
   refine ex_block ?_
   exact ex_again (x := (i, j)) (i, (i + j) / 2) ⟨by first | omega | (simp only []; omega), by first | omega | (simp only []; omega), by rw [← hi3, bsl_step (show i < j by first | omega | (simp only []; omega)) (by first | omega | (simp only []; omega)), if_pos h1]⟩ (by simp only; omega) (Sub.cons rfl (Sub.cons rfl (Sub.cons rfl (Sub.nil _)))) (fun w hw => Keep.mem hw)
 ·
  try simp only [bz0, bz1, bz2, bz3, bz4, bz5, bz6, bz7, bz8, bz9] at h0
  refine cw_exit ?_
  refine ex_pass_exit ?_
  refine ex_pass_exit ?_
  refine ex_block_hit ?_
  refine ex_then ?_
  refine cw_seq ?_
  refine cw_region ?_
  refine sq_r (ry_move rfl) ?_
  refine sq_r (ry_assign rfl) ?_
  refine sq_nil ?_
  refine ex_then ?_
  refine cw_ret ?_
  refine ex_ret (.inl rfl) (res_1 rfl (rv_tmp rfl)) (fun w1 hw => ?_)
  exact ⟨congrArg (fun b => Ending.returned (Value.int .i64 b)) ((by rw [← hi3, bsl_stop (by omega) (by omega)])), Keep.mem hw⟩

set_option maxRecDepth 20000 in
theorem tplace_c (w : World) (t : Sv) (ts : List Rt) (p : Pfx) (ht : Lies rcells 19 (hp w) t ts) (hpre : ts.length ≤ 1000000) : Calls Try.prog 44 #[t.val, .agg (pcells p)] w fun e w' => e = .returned (.tuple #[.int .i64 ((placeN ts p : Nat) : Int), .bool (placeB ts p)]) ∧ Mem w [] w' := by
 have ght : Gv w t rcells 19 ts := ⟨ht⟩
 refine calls_of (args := [_, _]) Try.func44 rfl Try.ntmps44 rfl ?_
 change Cw _ _ _ _ _ [(0, t.val), (1, .agg (pcells p))] []
 refine cw_seq ?_
 refine cw_region ?_
 refine sq_box rfl fun b2 => ?_
 refine sq_boxA rfl fun b3 => ?_
 refine sq_r (ry_assign rfl) ?_
 refine sq_r (ry_assign rfl) ?_
 refine sq_nil ?_
 refine ex_then ?_
 refine cw_seq ?_
 refine cw_region ?_
 refine sq_r (ry_cellc rfl) ?_
 refine sq_r (ry_lenH rfl) ?_
 refine sq_r (ry_mkfunc (vs := [.pointer (some ⟨b2, 0, none⟩), .pointer (some ⟨b3, 0, none⟩)]) rfl) ?_
 refine sq_y (yl_call (v := .int .i64 (placeN ts p : Nat)) rfl (fun w1 hw1 => tsearch_c (f := 71) w1 ts.length (behind ts p) #[.pointer (some ⟨b2, 0, none⟩), .pointer (some ⟨b3, 0, none⟩)] (fun w2 hw2 j hj => tplace1_c w2 b2 b3 t ts p j ((holds_blk (b := b2) (cs := t.val.cells) (enc := senc) (xs := [t]) (n := 1) (by rw [Sv.cells_val]; rfl) rfl (by decide) w1 hw1).mono hw2.below) ((holds_blk (b := b3) (cs := pcells p) (enc := pcells) (c := 18) (xs := [p]) (n := 1) (by simp [flatR]) rfl (by decide) w1 hw1).mono hw2.below) (((inferInstance : Hd w _ t rcells 19 ts).h w1 hw1).mono hw2.below) hj) (by omega))) ?_
 refine sq_r (ry_assign rfl) ?_
 refine sq_nil ?_
 refine ex_then ?_
 refine cw_seq ?_
 refine cw_quiet (by kernel_rfl) (by kernel_rfl) ?_
 refine qt_r (ry_move rfl) ?_
 refine qt_r (ry_move rfl) ?_
 refine qt_r (ry_cellc rfl) ?_
 refine qt_r (ry_lenH rfl) ?_
 refine qt_r (ry_int rfl rfl rfl) ?_
 refine qt_r (ry_move rfl) ?_
 refine qt_gt rfl rfl rfl (fun hg => (Ry.yl (ry_cellc rfl))) ?_
 refine qt_gt rfl rfl rfl (fun hg => (Ry.yl (ry_move rfl))) ?_
 refine qt_gt rfl rfl rfl (fun hg => (Ry.yl (ry_idxH (ev_c hg rfl) (ev_c hg rfl) (placeN ts p) rfl (by simp only [bz0, bz1, bz2, bz3, bz4, bz5, bz6, bz7, bz8, bz9] at hg; omega)))) ?_
 refine qt_gt rfl rfl rfl (fun hg => (Ry.yl (ry_field (ev_c hg rfl) rfl))) ?_
 refine qt_gt rfl rfl rfl (fun hg => (Ry.yl (ry_elempH (j := 0) (ev_c hg rfl) (placeN ts p) (get_getD (xs := ts) (i := (placeN ts p)) (d := zroute) (by simp only [bz0, bz1, bz2, bz3, bz4, bz5, bz6, bz7, bz8, bz9] at hg; omega)) rfl (by decide)))) ?_
 refine qt_gt rfl rfl rfl (fun hg => (Ry.yl (ry_whole rfl))) ?_
 refine qt_gt rfl rfl rfl (fun hg => (Ry.yl (ry_eq (ev_c hg rfl) (ev_c hg rfl)))) ?_
 refine qt_r (ry_and rfl rfl rfl) ?_
 refine qt_r (ry_assign rfl) ?_
 refine qt_r (ry_assign rfl) ?_
 refine qt_nil ?_
 refine ex_then ?_
 refine cw_ret ?_
 refine ex_ret (.inl rfl) (res_2 rfl (rv_tmp rfl) (rv_tmp rfl)) (fun w1 hw => ?_)
 exact ⟨(by rw [placeB_eq]), Keep.mem hw⟩
instance tplace_i {w0 : World} {L : List Ent} {t : Sv} {ts : List Rt} {p : Pfx} [ht : HdE w0 L rcells 19 t ts] : FnQ Try.prog 44 w0 L [t.val, .agg (pcells p)] (.tuple #[.int .i64 ((placeN ts p : Nat) : Int), .bool (placeB ts p)]) (ts.length ≤ 1000000) := ⟨fun hp w hw => tplace_c w t ts p (ht.h w hw) hp⟩
set_option maxRecDepth 20000 in
theorem tbest_c (w : World) (t : Sv) (ts : List Rt) (k : Key) (bits : Int) (ht : Lies rcells 19 (hp w) t ts) : Calls Try.prog 14 #[t.val, .agg (kcells k), .int .i64 bits] w fun e w' => e = .returned (.tuple #[.agg (rcells (bestR ts k bits)), .int .i64 (bestE ts k bits)]) ∧ Mem w [] w' := by
 have ght : Gv w t rcells 19 ts := ⟨ht⟩
 refine calls_of (args := [_, _, _]) Try.func14 rfl Try.ntmps14 rfl ?_
 change Cw _ _ _ _ _ [(0, t.val), (1, .agg (kcells k)), (2, .int .i64 bits)] []
 refine cw_seq ?_
 refine cw_region ?_
 refine sq_boxA rfl fun b4 => ?_
 refine sq_allocA fun b6 => ?_
 refine sq_r (ry_assign rfl) ?_
 refine sq_nil ?_
 refine ex_then ?_
 refine cw_seq ?_
 refine cw_seq ?_
 refine cw_region ?_
 refine sq_r (ry_move rfl) ?_
 refine sq_y (yl_callC rfl trivial) ?_
 refine sq_r (ry_not rfl) ?_
 refine sq_r (ry_move rfl) ?_
 refine sq_gf rfl rfl rfl (fun hg => (Ry.yl (ry_move rfl))) ?_
 refine sq_gf rfl rfl rfl (fun hg => (Ry.yl (ry_move rfl))) ?_
 refine sq_gf rfl rfl rfl (fun hg => (Ry.yl (ry_whole rfl))) ?_
 refine sq_gf rfl rfl rfl (fun hg => (Ry.yl (ry_buildc (evp_cons (ev_c hg rfl) (evp_cons (ev_c hg rfl) (evp_cons (ev_c hg rfl) evp_nil)))))) ?_
 refine sq_gf rfl rfl rfl (fun hg => yl_callC (evl_cons (ev_c hg rfl) evl_nil) trivial) ?_
 refine sq_gf rfl rfl rfl (fun hg => (Ry.yl (ry_not (ev_c hg rfl)))) ?_
 refine sq_r (ry_or rfl rfl rfl) ?_
 refine sq_nil ?_
 refine ex_then ?_
 refine cw_cond rfl (fun h0 => ?_) (fun h0 => ?_)
 ·
  try simp only [bz0, bz1, bz2, bz3, bz4, bz5, bz6, bz7, bz8, bz9] at h0
  have hk : bestO ts k bits = false := by rw [bestO]; rcases h0 with h | h; rw [h]; rfl; rw [h]; simp
  refine cw_seq ?_
  refine cw_region ?_
  refine sq_r (ry_buildc rfl) ?_
  refine sq_storeW rfl rfl ?_
  refine sq_r (ry_assign rfl) ?_
  refine sq_nil ?_
  refine ex_then ?_
  refine cw_ret ?_
  refine ex_pass_ret ?_
  refine ex_ret (.inl rfl) (res_2 rfl (rv_agg rfl) (rv_tmp rfl)) (fun w1 hw => ?_)
  exact ⟨(by rw [bestR, if_neg (by rw [hk]; simp), bestE, if_neg (by rw [hk]; simp)]), Keep.mem hw⟩
 ·
  try simp only [bz0, bz1, bz2, bz3, bz4, bz5, bz6, bz7, bz8, bz9] at h0
  have hr : tright ts = true := by simpa using h0.1
  have hk : bestO ts k bits = true := by rw [bestO, hr]; simpa using h0.2
  have hlen := tr_len hr
  have hb : bits = 32 ∨ bits = 128 := ((pmay_iff _).1 (by simpa using h0.2 : pmay ⟨bits, bits, k⟩ = true)).1
  refine cw_skip ?_
  refine ex_then ?_
  refine cw_seq ?_
  refine cw_seq ?_
  refine cw_region ?_
  refine sq_r (ry_move rfl) ?_
  refine sq_r (ry_assign rfl) ?_
  refine sq_nil ?_
  refine ex_then ?_
  refine cw_block ?_
  refine cw_loop (X := Int) (fun zz => [(8, .int .i64 zz), (0, t.val), (2, .int .i64 bits), (4, .pointer (some ⟨b4, 0, none⟩)), (6, .pointer (some ⟨b6, 0, none⟩))]) (fun zz => [blk b6 (rcells zroute) 34, blk b4 (kcells k) 24]) (fun zz => -1 ≤ zz ∧ zz ≤ bits ∧ (zz < 0 → bestF ts k bits bits.toNat = none) ∧ (∀ m : Nat, zz = m → bestF ts k bits bits.toNat = bestF ts k bits m)) (fun zz => (zz + 1).toNat) bits ⟨by first | omega | (simp only []; omega), Int.le_refl _, fun h => by first | omega | (simp only []; omega), fun m h => by rw [h]; rfl⟩ (Sub.cons rfl (Sub.cons rfl (Sub.cons rfl (Sub.cons rfl (Sub.cons rfl (Sub.nil _)))))) (fun w hw => Keep.mem hw) ?_
  rintro n ⟨hn0, hn1, hn2, hn4⟩
  refine cw_seq ?_
  refine cw_seq ?_
  refine cw_region ?_
  refine sq_r (ry_move rfl) ?_
  refine sq_r (ry_int rfl rfl rfl) ?_
  refine sq_nil ?_
  refine ex_then ?_
  refine cw_cond rfl (fun h1 => ?_) (fun h1 => ?_)
  ·
   try simp only [bz0, bz1, bz2, bz3, bz4, bz5, bz6, bz7, bz8, bz9] at h1
   obtain ⟨m, rfl⟩ : ∃ m : Nat, n = (m : Int) := ⟨n.toNat, by omega⟩
   refine cw_skip ?_
   refine ex_then ?_
   refine cw_seq ?_
   refine cw_block ?_
   refine cw_seq ?_
   refine cw_region ?_
   refine sq_r (ry_move rfl) ?_
   refine sq_r (ry_move rfl) ?_
   refine sq_r (ry_whole rfl) ?_
   refine sq_r (ry_move rfl) ?_
   refine sq_y (yl_callC rfl trivial) ?_
   refine sq_r (ry_buildc rfl) ?_
   refine sq_allocA fun b9 => ?_
   refine sq_storeW rfl rfl ?_
   refine sq_nil ?_
   refine ex_then ?_
   refine cw_seq ?_
   refine cw_region ?_
   refine sq_r (ry_move rfl) ?_
   refine sq_r (ry_whole rfl) ?_
   refine sq_y (yl_callC rfl (by omega)) ?_
   refine sq_r (ry_move rfl) ?_
   refine sq_r (ry_extract (v := .int .i64 ((placeN ts (⟨bits, ((m : Nat) : Int), (kcut k ((m : Nat) : Int))⟩ : Pfx) : Nat) : Int)) rfl rfl) ?_
   refine sq_r (ry_extract (v := .bool (placeB ts (⟨bits, ((m : Nat) : Int), (kcut k ((m : Nat) : Int))⟩ : Pfx))) rfl rfl) ?_
   refine sq_r (ry_assign rfl) ?_
   refine sq_r (ry_assign rfl) ?_
   refine sq_nil ?_
   refine ex_then ?_
   refine cw_seq ?_
   refine cw_region ?_
   refine sq_r (ry_move rfl) ?_
   refine sq_nil ?_
   refine ex_then ?_
   refine cw_cond rfl (fun h2 => ?_) (fun h2 => ?_)
   ·
    try simp only [bz0, bz1, bz2, bz3, bz4, bz5, bz6, bz7, bz8, bz9] at h2
    have hba : ∃ r, ts[placeN ts ⟨bits, m, kcut k m⟩]? = some r ∧ bestAt ts k bits m = some r := by obtain ⟨r, _, h8, _⟩ := place_in h2; exact ⟨r, h8, by rw [bestAt, if_pos h2, h8]⟩
    obtain ⟨r, hr1, hr2⟩ := hba
    have hbs : bestF ts k bits bits.toNat = some r := by rw [hn4 m rfl]; cases m with | zero => exact hr2 | succ m => rw [bestF, hr2]
    refine cw_seq ?_
    refine cw_region ?_
    refine sq_r (ry_move rfl) ?_
    refine sq_r (ry_move rfl) ?_
    refine sq_r (ry_idxH rfl rfl (placeN ts ⟨bits, m, kcut k m⟩) (by omega) (List.getElem?_eq_some_iff.1 hr1).1) ?_
    refine sq_r (ry_elemH rfl (placeN ts ⟨bits, m, kcut k m⟩) hr1 rfl) ?_
    refine sq_storeW rfl rfl ?_
    refine sq_r (ry_assign rfl) ?_
    refine sq_nil ?_
    refine ex_then ?_
    refine cw_ret ?_
    refine ex_block_ret ?_
    refine ex_pass_ret ?_
    refine ex_pass_ret ?_
    refine ex_block_ret ?_
    refine ex_pass_ret ?_
    refine ex_ret (.inl rfl) (res_2 rfl (rv_agg rfl) (rv_tmp rfl)) (fun w1 hw => ?_)
    exact ⟨(by rw [bestR, if_pos hk, bestE, if_pos hk, hbs]; rfl), Keep.mem hw⟩
   ·
    try simp only [bz0, bz1, bz2, bz3, bz4, bz5, bz6, bz7, bz8, bz9] at h2
    have hba : bestAt ts k bits m = none := by rw [bestAt, if_neg (by rw [h2]; simp)]
    refine cw_skip ?_
    refine ex_block ?_
    refine ex_then ?_
    refine cw_region ?_
    refine sq_r (ry_move rfl) ?_
    refine sq_r (ry_sub rfl rfl (by omega)) ?_
    refine sq_r (ry_assign rfl) ?_
    refine sq_nil ?_
    exact ex_again (x := ((m : Nat) : Int)) ((m : Int) - 1) ⟨by first | omega | (simp only []; omega), by first | omega | (simp only []; omega), fun h => by obtain rfl : m = 0 := (by first | omega | (simp only []; omega)); rw [hn4 0 rfl]; exact hba, fun m2 h => by obtain rfl : m = m2 + 1 := (by first | omega | (simp only []; omega)); rw [hn4 _ rfl, bestF, hba]⟩ (by first | omega | (simp only []; omega)) (Sub.cons rfl (Sub.cons rfl (Sub.cons rfl (Sub.cons rfl (Sub.cons rfl (Sub.nil _)))))) (fun w hw => Keep.mem hw)
  ·
   try simp only [bz0, bz1, bz2, bz3, bz4, bz5, bz6, bz7, bz8, bz9] at h1
   have hbn : bestF ts k bits bits.toNat = none := hn2 (by omega)
   refine cw_exit ?_
   refine ex_pass_exit ?_
   refine ex_pass_exit ?_
   refine ex_block_hit ?_
   refine ex_then ?_
   refine cw_seq ?_
   refine cw_region ?_
   refine sq_r (ry_buildc rfl) ?_
   refine sq_storeW rfl rfl ?_
   refine sq_r (ry_assign rfl) ?_
   refine sq_nil ?_
   refine ex_then ?_
   refine cw_ret ?_
   refine ex_ret (.inl rfl) (res_2 rfl (rv_agg rfl) (rv_tmp rfl)) (fun w1 hw => ?_)
   exact ⟨(by rw [bestR, if_pos hk, bestE, if_pos hk, hbn]; rfl), Keep.mem hw⟩
instance tbest_i {w0 : World} {L : List Ent} {t : Sv} {ts : List Rt} {k : Key} {bits : Int} [ht : HdE w0 L rcells 19 t ts] : FnQ Try.prog 14 w0 L [t.val, .agg (kcells k), .int .i64 bits] (.tuple #[.agg (rcells (bestR ts k bits)), .int .i64 (bestE ts k bits)]) (True) := ⟨fun hp w hw => tbest_c w t ts k bits (ht.h w hw)⟩

end Go.Proofs.Ytldkgicmfbofiaa

/- slices.Clone of routes: walked. -/
namespace Go.Proofs.Ytldkgicmfbofiaa
open Go.Eng Go.Kb
set_option maxRecDepth 20000 in
theorem cloneR_c (w : World) (s : Sv) (ss : List Rt) (hs : Lies rcells 19 (hp w) s ss) (hpre : ss.length ≤ 1000000) : Calls Try.prog 46 #[s.val] w fun e w' => ∃ zz : Sv, e = .returned (zz.val) ∧ (True) ∧ Mem w [own rcells 19 zz ss] w' := by
 have ghs : Gv w s rcells 19 ss := ⟨hs⟩
 refine calls_of (args := [_]) Try.func46 rfl Try.ntmps46 rfl ?_
 change Cw _ _ _ _ _ [(0, s.val)] []
 refine cw_seq ?_
 refine cw_region ?_
 refine sq_r (ry_assign rfl) ?_
 refine sq_nil ?_
 refine ex_then ?_
 refine cw_seq ?_
 refine cw_seq ?_
 refine cw_region ?_
 refine sq_r (ry_move rfl) ?_
 refine sq_r (ry_nilS Try.underlying22 rfl) ?_
 refine sq_nil ?_
 refine ex_then ?_
 refine cw_cond rfl (fun h0 => ?_) (fun h0 => ?_)
 ·
  try simp only [bz0, bz1, bz2, bz3, bz4, bz5, bz6, bz7, bz8, bz9] at h0
  have e0 : ss = [] := List.length_eq_zero_iff.1 (by have := hs.ok.nil h0; have := hs.len; omega)
  refine cw_seq ?_
  refine cw_region ?_
  refine sq_r (ry_assign rfl) ?_
  refine sq_nil ?_
  refine ex_then ?_
  refine cw_ret ?_
  refine ex_pass_ret ?_
  refine ex_ret (.inl rfl) (res_1 rfl (rv_tmp rfl)) (fun w1 hw => ?_)
  exact ⟨Sv.none, rfl, trivial, by rw [e0]; exact (Keep.mem hw : Mem w [] _).nilOwn rcells 19⟩
 ·
  try simp only [bz0, bz1, bz2, bz3, bz4, bz5, bz6, bz7, bz8, bz9] at h0
  refine cw_skip ?_
  refine ex_then ?_
  refine cw_seq ?_
  refine cw_region ?_
  refine sq_build0 rcells fun b5 => ?_
  refine sq_r (ry_move rfl) ?_
  refine sq_append (s := ⟨false, b5, 0, 0, 0, none⟩) (ys := ss) rfl rfl (by decide) (fun w hw => src_rows (s := s) Try.underlying22 (by decide) ((inferInstance : Hd _ _ s rcells 19 ss).h w hw)) (by simp only [List.length_append, List.length_cons, List.length_nil]; omega) (by simp only [List.length_append, List.length_cons, List.length_nil]; omega) fun s7 hs7 hl7 => ?_
  refine sq_r (ry_assign rfl) ?_
  refine sq_nil ?_
  refine ex_then ?_
  refine cw_ret ?_
  refine ex_ret (.inl rfl) (res_1 rfl (rv_tmp rfl)) (fun w1 hw => ?_)
  exact ⟨s7, rfl, trivial, by simpa using hw⟩
instance cloneR_i {w0 : World} {L : List Ent} {s : Sv} {ss : List Rt} [hs : HdE w0 L rcells 19 s ss] : FnC Try.prog 46 w0 L [s.val] (Sv) (fun zz => zz.val) (fun zz => own rcells 19 zz ss :: L) (fun zz => True) (ss.length ≤ 1000000) := ⟨fun hp w hw => (cloneR_c w s ss (hs.h w hw) hp).mono fun e w' ⟨x, h1, h2, h3⟩ => ⟨x, h1, h2, hw.call h3⟩⟩

end Go.Proofs.Ytldkgicmfbofiaa

/- slices.Delete and slices.Insert of routes: walked. -/
namespace Go.Proofs.Ytldkgicmfbofiaa
open Go.Eng Go.Kb
instance : OvF Try.prog 86 22 4 := ⟨⟨Try.f86, Try.func86, by kernel_rfl, by kernel_rfl, by kernel_rfl, by kernel_rfl⟩⟩
set_option maxRecDepth 20000 in
theorem sdelR_c (w0 w : World) (L : List Ent) (s : Sv) (ss : List Rt) (n : Nat) (m : Nat) (hw : Mem w0 (own rcells 19 s ss :: L) w) (hpre : n ≤ m ∧ m ≤ ss.length) : Calls Try.prog 72 #[s.val, .int .i64 (n : Nat), .int .i64 (m : Nat)] w fun e w' => ∃ zz : Sv, e = .returned (zz.val) ∧ (True) ∧ Mem w0 (own rcells 19 zz (ss.take n ++ ss.drop m) :: L) w' := by
 obtain ⟨hp1, hp2⟩ := hpre
 refine calls_in (args := [_, _, _]) Try.func72 rfl Try.ntmps72 rfl hw ?_
 change Cw _ _ _ _ _ [(0, s.val), (1, .int .i64 (n : Nat)), (2, .int .i64 (m : Nat))] (own rcells 19 s ss :: L)
 refine cw_seq ?_
 refine cw_region ?_
 refine sq_r (ry_assign rfl) ?_
 refine sq_nil ?_
 refine ex_then ?_
 refine cw_seq ?_
 refine cw_region ?_
 refine sq_r (ry_move rfl) ?_
 refine sq_r (ry_move rfl) ?_
 refine sq_r (ry_move rfl) ?_
 refine sq_r (ry_move rfl) ?_
 refine sq_r (ry_lenH rfl) ?_
 refine sq_r (ry_subH3 (l := n) (h := m) (m := ss.length) rfl rfl rfl rfl rfl rfl rfl (by omega) (by omega) (by omega)) ?_
 refine sq_nil ?_
 refine ex_then ?_
 refine cw_seq ?_
 refine cw_seq ?_
 refine cw_region ?_
 refine sq_r (ry_move rfl) ?_
 refine sq_r (ry_move rfl) ?_
 refine sq_r (ry_int rfl rfl rfl) ?_
 refine sq_nil ?_
 refine ex_then ?_
 refine cw_cond rfl (fun h0 => ?_) (fun h0 => ?_)
 ·
  try simp only [bz0, bz1, bz2, bz3, bz4, bz5, bz6, bz7, bz8, bz9] at h0
  obtain rfl : n = m := by omega
  refine cw_seq ?_
  refine cw_region ?_
  refine sq_r (ry_move rfl) ?_
  refine sq_r (ry_assign rfl) ?_
  refine sq_nil ?_
  refine ex_then ?_
  refine cw_ret ?_
  refine ex_pass_ret ?_
  refine ex_ret (.inl rfl) (res_1 rfl (rv_tmp rfl)) (fun w1 hw => ?_)
  exact ⟨s, rfl, trivial, by rw [List.take_append_drop]; exact hw⟩
 ·
  try simp only [bz0, bz1, bz2, bz3, bz4, bz5, bz6, bz7, bz8, bz9] at h0
  refine cw_skip ?_
  refine ex_then ?_
  refine cw_seq ?_
  refine cw_bd s fun hbd0 => ?_
  have hlt : n < m := by omega
  refine cw_open (s := s) inferInstance (by decide) (by omega) fun pre mid T hpl hcap hnil hsp hok hsl => ?_
  have hle := hok.le
  have hbd := hok.bd
  have hlv : (flatR rcells (ss.drop m)).length = (ss.length - m) * 19 := by rw [flatR_length, List.length_drop]
  have hlu : (flatR rcells (ss.take n)).length = n * 19 := by rw [flatR_length, List.length_take]; congr 1; omega
  have hlx : (flatR rcells ss).length = ss.length * 19 := flatR_length ss
  have exs : flatR rcells ss = flatR rcells (ss.take m) ++ flatR rcells (ss.drop m) := by rw [← flatR_app, List.take_append_drop]
  have hlm : (flatR rcells (ss.take m)).length = m * 19 := by rw [flatR_length, List.length_take]; congr 1; omega
  obtain ⟨X, hX⟩ : ∃ X, flatR rcells ss = flatR rcells (ss.take n) ++ X := ⟨flatR rcells (ss.drop n), by rw [← flatR_app, List.take_append_drop]⟩
  have hXl : n * 19 + X.length = ss.length * 19 := by rw [← hlx, hX, List.length_append, hlu]
  obtain ⟨r1, hr1⟩ : ∃ r : Sv, r = (⟨false, s.b, s.o, n + (ss.length - m), s.cap, none⟩ : Sv) := ⟨_, rfl⟩
  refine cw_region ?_
  refine sq_r (ry_move rfl) ?_
  refine sq_r (ry_lenS rfl hok hsl) ?_
  refine sq_r (ry_assign rfl) ?_
  refine sq_nil ?_
  refine ex_then ?_
  refine cw_seq ?_
  refine cw_tail 6 [] (by kernel_rfl) (by kernel_rfl) ?_
  simp only [List.take_succ_cons, List.take_zero]
  refine qt_r (ry_move rfl) ?_
  refine qt_r (ry_move rfl) ?_
  have rg22 : Rg 0 n ss.length := ⟨by omega⟩
  refine qt_r (ry_subS_hi (h := n) rfl rfl rfl hok (by omega)) ?_
  refine qt_r (ry_move rfl) ?_
  refine qt_r (ry_move rfl) ?_
  have rg25 : Rg m ss.length ss.length := ⟨by omega⟩
  refine qt_r (ry_subS_lo (l := m) (n := ss.length) rfl rfl rfl hok hsl (by omega)) ?_
  refine qt_end ?_
  refine fr_nil ?_
  simp only [List.drop_succ_cons, List.drop_zero]
  refine sq_appendB (D := s.sub 19 0 n) (S := s.sub 19 m ss.length) (b := s.b) (o := s.o + n * 19) (n := ss.length - m) (vs := flatR rcells (ss.drop m)) (R := r1) (cs' := (pre ++ (flatR rcells (ss.take n) ++ (flatR rcells (ss.drop m) ++ (X ++ mid).drop (flatR rcells (ss.drop m)).length))).toArray) rfl rfl hnil hsp rfl (by rw [Sv.sub_0]; rfl) hnil hsp rfl rfl hlv (by show n - 0 + _ ≤ s.cap - 0; omega) (fun w hw j v hj => by
   have hjl := (List.getElem?_eq_some_iff.1 hj).1
   rw [hlv] at hjl
   rw [Sv.sub_o (by omega)]
   show w.cell? ⟨s.b, _, none⟩ = _
   rw [hw.cell (inferInstance : Has _ s.b _ _ _).h, List.getElem?_toArray, List.getElem?_append_right (by omega), List.getElem?_append_left (by omega), exs, List.getElem?_append_right (by omega), ← hj]
   congr 1; omega) (flatR_one _) (by simp only [List.size_toArray, List.length_append]; omega) (by rw [hX, List.append_assoc, ← List.append_assoc pre, over_cat (by rw [List.length_append]; omega), List.append_assoc]) (by rw [hr1, Sv.sub_0]; rfl) ?_
  refine sq_r (ry_assign rfl) ?_
  refine sq_nil ?_
  refine ex_then ?_
  refine cw_seq ?_
  refine cw_region ?_
  refine sq_r (ry_move rfl) ?_
  refine sq_r (ry_move rfl) ?_
  refine sq_r (ry_lenS (n := n + (ss.length - m)) (s := r1) rfl (by rw [hr1]; exact ⟨(fun h => by cases h), by simp only; omega, by simp only; omega, fun _ => rfl⟩) (by rw [hr1])) ?_
  refine sq_r (ry_move rfl) ?_
  refine sq_r (ry_subS (s := r1) (l := n + (ss.length - m)) (h := ss.length) rfl rfl rfl rfl rfl (by rw [hr1]; exact ⟨(fun h => by cases h), by simp only; omega, by simp only; omega, fun _ => rfl⟩) (by omega) (by rw [hr1]; simp only; omega)) ?_
  refine sq_clearB (D := r1.sub 19 (n + (ss.length - m)) ss.length) (b := s.b) (o := s.o + (n + (ss.length - m)) * 19) (n := m - n) (z := .agg (rcells zroute)) rfl (by rw [hr1]; rfl) (by rw [hr1]; rfl) (by rw [hr1]; rfl) (by rw [hr1, Sv.sub_o (by show _ < s.cap; omega)]) (by show ss.length - (n + (ss.length - m)) = _; omega) (by omega) (show (rcells zroute).all (·.oneCell') = true from (inferInstance : Enc rcells 19).one zroute) (by simp only [List.size_toArray, List.length_append, List.length_drop]; omega) fun Z hZ => ?_
  refine sq_nil ?_
  refine ex_then ?_
  refine cw_seq ?_
  refine cw_region ?_
  refine sq_r (ry_move rfl) ?_
  refine sq_r (ry_assign rfl) ?_
  refine sq_nil ?_
  refine ex_then ?_
  refine cw_ret ?_
  refine ex_ret (.inl rfl) (res_1 rfl (rv_tmp rfl)) (fun w1 hw => ?_)
  refine ⟨r1, rfl, trivial, ?_⟩
  rw [show (pre ++ (flatR rcells (ss.take n) ++ (flatR rcells (ss.drop m) ++ (X ++ mid).drop (flatR rcells (ss.drop m)).length))) = (pre ++ (flatR rcells (ss.take n) ++ flatR rcells (ss.drop m))) ++ (X ++ mid).drop (flatR rcells (ss.drop m)).length from by simp only [List.append_assoc], over_cat (A := pre ++ (flatR rcells (ss.take n) ++ flatR rcells (ss.drop m))) (by simp only [List.length_append]; omega), ← flatR_app, List.append_assoc pre] at hw
  have hw2 := own_shut (enc := rcells) (i := 0) (xs := ss.take n ++ ss.drop m) (pre := pre) hw rfl r1 (by rw [hr1]; exact ⟨(fun h => by cases h), by simp only; omega, by simp only; omega, fun _ => rfl⟩) (by rw [hr1]) (by rw [hr1]) (by rw [hr1]) (by rw [hr1]; exact hpl.symm) (by rw [hr1]; simp only [List.length_append, List.length_take, List.length_drop]; omega) (by rw [hr1]; simp only [List.length_append, List.length_take, List.length_drop]; omega)
  exact hw2
instance sdelR_i {w0 : World} {L R : List Ent} {i : Nat} {s : Sv} {ss : List Rt} {n : Nat} {m : Nat} [q : Owns L s rcells 19 ss i] [d : DelI L i R] : FnC Try.prog 72 w0 L [s.val, .int .i64 (n : Nat), .int .i64 (m : Nat)] (Sv) (fun zz => zz.val) (fun zz => own rcells 19 zz (ss.take n ++ ss.drop m) :: R) (fun zz => True) (n ≤ m ∧ m ≤ ss.length) := ⟨fun hp w hw => sdelR_c w0 w R s ss n m (mem_one q.h d.h hw) hp⟩
set_option maxRecDepth 20000 in
theorem sinsR_c (w0 w : World) (L : List Ent) (s : Sv) (ss : List Rt) (v : Sv) (r : Rt) (n : Nat) (hw : Mem w0 (own rcells 19 s ss :: own rcells 19 v [r] :: L) w) (hpre : n ≤ ss.length ∧ ss.length ≤ 1000000) : Calls Try.prog 73 #[s.val, .int .i64 (n : Nat), v.val] w fun e w' => ∃ zz : Sv, e = .returned (zz.val) ∧ (True) ∧ Mem w0 (own rcells 19 zz (ss.take n ++ r :: ss.drop n) :: L) w' := by
 obtain ⟨hp1, hp2⟩ := hpre
 refine calls_in (args := [_, _, _]) Try.func73 rfl Try.ntmps73 rfl hw ?_
 change Cw _ _ _ _ _ [(0, s.val), (1, .int .i64 (n : Nat)), (2, v.val)] (own rcells 19 s ss :: own rcells 19 v [r] :: L)
 refine cw_seq ?_
 refine cw_region ?_
 refine sq_r (ry_assign rfl) ?_
 refine sq_nil ?_
 refine ex_then ?_
 refine cw_seq ?_
 refine cw_region ?_
 refine sq_r (ry_move rfl) ?_
 refine sq_r (ry_move rfl) ?_
 have rg12 : Rg n ss.length ss.length := ⟨by omega⟩
 refine sq_r (ry_subH_lo rfl rfl n rfl rg12.h.1) ?_
 refine sq_nil ?_
 refine ex_then ?_
 refine cw_seq ?_
 refine cw_region ?_
 refine sq_r (ry_move rfl) ?_
 refine sq_r (Ry.to (v' := .int .i64 (1 : Nat)) (ry_lenH rfl) rfl) ?_
 refine sq_r (ry_assign rfl) ?_
 refine sq_nil ?_
 refine ex_then ?_
 refine cw_seq ?_
 refine cw_seq ?_
 refine cw_region ?_
 refine sq_r (ry_move rfl) ?_
 refine sq_r (ry_int rfl rfl rfl) ?_
 refine sq_nil ?_
 refine ex_then ?_
 refine cw_cond rfl (fun h0 => ?_) (fun h0 => ?_)
 ·
  try simp only [bz0, bz1, bz2, bz3, bz4, bz5, bz6, bz7, bz8, bz9] at h0
  exfalso; omega
 ·
  try simp only [bz0, bz1, bz2, bz3, bz4, bz5, bz6, bz7, bz8, bz9] at h0
  refine cw_skip ?_
  refine ex_then ?_
  refine cw_seq ?_
  refine cw_region ?_
  refine sq_r (ry_move rfl) ?_
  refine sq_r (ry_lenH rfl) ?_
  refine sq_r (ry_assign rfl) ?_
  refine sq_nil ?_
  refine ex_then ?_
  refine cw_seq ?_
  refine cw_seq ?_
  refine cw_region ?_
  refine sq_r (ry_move rfl) ?_
  refine sq_r (ry_move rfl) ?_
  refine sq_r (ry_int rfl rfl rfl) ?_
  refine sq_nil ?_
  refine ex_then ?_
  refine cw_cond rfl (fun h1 => ?_) (fun h1 => ?_)
  ·
   try simp only [bz0, bz1, bz2, bz3, bz4, bz5, bz6, bz7, bz8, bz9] at h1
   refine cw_seq ?_
   refine cw_region ?_
   refine sq_r (ry_move rfl) ?_
   refine sq_r (ry_move rfl) ?_
   refine sq_append (s := s) (ys := [r]) rfl rfl (by decide) (fun w hw => src_rows (s := v) Try.underlying22 (by decide) ((inferInstance : Hd _ _ v rcells 19 [r]).h w hw)) (by simp only [List.length_cons, List.length_nil]; omega) (by simp only [List.length_cons, List.length_nil]; omega) fun s25 hs25 hl25 => ?_
   refine sq_r (ry_assign rfl) ?_
   refine sq_nil ?_
   refine ex_then ?_
   refine cw_ret ?_
   refine ex_pass_ret ?_
   refine ex_ret (.inl rfl) (res_1 rfl (rv_tmp rfl)) (fun w1 hw => ?_)
   exact ⟨s25, rfl, trivial, by rw [List.take_of_length_le (by omega), List.drop_of_length_le (by omega)]; exact Keep.mem hw⟩
  ·
   try simp only [bz0, bz1, bz2, bz3, bz4, bz5, bz6, bz7, bz8, bz9] at h1
   refine cw_skip ?_
   refine ex_then ?_
   refine cw_seq ?_
   refine cw_seq ?_
   have hlt : n < ss.length := by omega
   refine cw_owned (s := v) (enc := rcells) inferInstance (by simp) fun hvn hvs hvok hvl => ?_
   have hvl1 : v.len = 1 := hvl
   refine cw_open (s := s) inferInstance (by decide) (by omega) fun pre mid T hpl hcap hnil hsp hok hsl => ?_
   have hle := hok.le
   have hbd := hok.bd
   obtain ⟨x, hx⟩ := get_some (xs := ss) (i := n) (by omega)
   have hA : (flatR rcells (ss.take n)).length = n * 19 := by rw [flatR_length, List.length_take]; congr 1; omega
   have hB : (flatR rcells (ss.drop n)).length = (ss.length - n) * 19 := by rw [flatR_length, List.length_drop]
   have hr0 : (flatR rcells [r]).length = 19 := by rw [flatR_length]; rfl
   have he0 : (flatR rcells [x]).length = 19 := by rw [flatR_length]; rfl
   have hss : flatR rcells ss = (flatR rcells (ss.take n)) ++ (flatR rcells (ss.drop n)) := by rw [← flatR_app, List.take_append_drop]
   have hBe : (flatR rcells (ss.drop n)) = (flatR rcells [x]) ++ (flatR rcells (ss.drop (n + 1))) := by rw [← flatR_app, List.drop_eq_getElem_cons hlt, show ss[n] = x from (List.getElem?_eq_some_iff.1 hx).2]; rfl
   have hlx : (flatR rcells ss).length = ss.length * 19 := flatR_length ss
   have hfin : flatR rcells (ss.take n ++ r :: ss.drop n) = (flatR rcells (ss.take n)) ++ ((flatR rcells [r]) ++ (flatR rcells (ss.drop n))) := by rw [flatR_app, ← flatR_app [r]]; rfl
   have hlf : (ss.take n ++ r :: ss.drop n).length = ss.length + 1 := by simp only [List.length_append, List.length_take, List.length_cons, List.length_drop]; omega
   have hcs : ∀ (w1 : World) L', Mem w0 (blk s.b (pre ++ (flatR rcells ss ++ mid)).toArray T :: L') w1 → ∀ j u, (flatR rcells ss)[j]? = some u → w1.cell? ⟨s.b, s.o + j, none⟩ = some u := fun w1 L' hw1 j u hj => blk_cells hw1 hpl hj
   refine cw_region ?_
   refine sq_r (ry_move rfl) ?_
   refine sq_r (ry_move rfl) ?_
   refine sq_r (ry_add rfl rfl (by omega)) ?_
   refine sq_r (ry_move rfl) ?_
   refine sq_r (ry_capSv (n := s.cap) rfl hnil rfl) ?_
   refine sq_r (ry_int rfl rfl rfl) ?_
   refine sq_nil ?_
   refine ex_then ?_
   refine cw_cond rfl (fun h2 => ?_) (fun h2 => ?_)
   ·
    try simp only [bz0, bz1, bz2, bz3, bz4, bz5, bz6, bz7, bz8, bz9] at h2
    refine cw_seq ?_
    refine cw_region ?_
    refine sq_r (ry_move rfl) ?_
    refine sq_r (ry_move rfl) ?_
    refine sq_r (ry_subS_hi (h := n) rfl rfl rfl hok (by omega)) ?_
    refine sq_r (ry_move rfl) ?_
    refine sq_r (ry_move rfl) ?_
    refine sq_r (ry_add rfl rfl (by omega)) ?_
    refine sq_r (ry_move rfl) ?_
    refine sq_r (ry_sub rfl rfl (by omega)) ?_
    refine sq_appendZ (D := s.sub 19 0 n) (k := ss.length + 1 - n) (p := n) (m := ss.length + 1) (olds := (flatR rcells (ss.take n))) rfl (by omega) rfl rfl (by omega) (by omega) hnil hsp (by decide) Try.underlying3 hA (fun w hw j u hj => by
     have hjl := (List.getElem?_eq_some_iff.1 hj).1
     rw [Sv.sub_0]
     exact hcs w _ hw j u (by rw [hss, List.getElem?_append_left hjl]; exact hj)) (by show s.cap - 0 < n - 0 + _; omega) (by show (n - 0 + _) * _ ≤ _; omega) (by show n - 0 + _ ≤ _; omega) fun b40 C40 Z40 hC40 hZ40 => ?_
    refine sq_r (ry_assign rfl) ?_
    refine sq_nil ?_
    refine ex_then ?_
    refine cw_seq ?_
    refine cw_region ?_
    refine sq_r (ry_move rfl) ?_
    refine sq_r (ry_move rfl) ?_
    refine sq_r (ry_subS_lo (s := (⟨false, b40, 0, ss.length + 1, C40, none⟩ : Sv)) (l := n) (n := ss.length + 1) rfl rfl rfl ⟨(fun h => by cases h), by simp only; omega, by simp only; omega, fun _ => rfl⟩ rfl (by omega)) ?_
    refine sq_r (ry_move rfl) ?_
    refine sq_copyB (D := (⟨false, b40, 0, ss.length + 1, C40, none⟩ : Sv).sub 19 n (ss.length + 1)) (S := v) (b := b40) (o := n * 19) (n := 1) (vs := (flatR rcells [r])) (cs' := ((flatR rcells (ss.take n)) ++ ((flatR rcells [r]) ++ Z40.drop 19)).toArray) rfl rfl rfl rfl rfl (by rw [Sv.sub_o (by show n < C40; omega)]; exact Nat.zero_add _) hvn hvs (by rw [hvl1]; exact min_l (b := ss.length + 1 - n) (by omega)) (by rw [hr0]) (fun w hw j u hj => own_cells (enc := rcells) (xs := [r]) (by decide) inferInstance hw hj) (flatR_one _) (by simp only [List.size_toArray, List.length_append]; omega) (by rw [over_cat (A := (flatR rcells (ss.take n))) hA.symm, hr0]) ?_
    refine sq_nil ?_
    refine ex_then ?_
    refine cw_seq ?_
    refine cw_tail 8 [] (by kernel_rfl) (by kernel_rfl) ?_
    simp only [List.take_succ_cons, List.take_zero]
    refine qt_r (ry_move rfl) ?_
    refine qt_r (ry_move rfl) ?_
    refine qt_r (ry_move rfl) ?_
    refine qt_r (ry_add rfl rfl (by omega)) ?_
    refine qt_r (ry_subS_lo (s := (⟨false, b40, 0, ss.length + 1, C40, none⟩ : Sv)) (l := n + 1) (n := ss.length + 1) rfl rfl rfl ⟨(fun h => by cases h), by simp only; omega, by simp only; omega, fun _ => rfl⟩ rfl (by omega)) ?_
    refine qt_r (ry_move rfl) ?_
    refine qt_r (ry_move rfl) ?_
    refine qt_r (ry_subS_lo (l := n) (n := ss.length) rfl rfl rfl hok hsl (by omega)) ?_
    refine qt_end ?_
    refine fr_nil ?_
    simp only [List.drop_succ_cons, List.drop_zero]
    refine sq_copyB (D := (⟨false, b40, 0, ss.length + 1, C40, none⟩ : Sv).sub 19 (n + 1) (ss.length + 1)) (S := s.sub 19 n ss.length) (b := b40) (o := (n + 1) * 19) (n := ss.length - n) (vs := (flatR rcells (ss.drop n))) (cs' := (((flatR rcells (ss.take n)) ++ (flatR rcells [r])) ++ ((flatR rcells (ss.drop n)) ++ (Z40.drop 19).drop (flatR rcells (ss.drop n)).length)).toArray) rfl rfl rfl rfl rfl (by rw [Sv.sub_o (by show n + 1 < C40; omega)]; exact Nat.zero_add _) hnil hsp (min_l (a := ss.length - n) (b := ss.length + 1 - (n + 1)) (by omega)) hB (fun w hw j u hj => by
     rw [Sv.sub_o (by omega), Nat.add_assoc]
     exact hcs w _ (hw.sub (by first | exact List.Sublist.refl _ | exact List.sublist_cons_self _ _)) (n * 19 + j) u (by rw [hss, List.getElem?_append_right (by omega), hA, Nat.add_sub_cancel_left]; exact hj)) (flatR_one _) (by simp only [List.size_toArray, List.length_append, List.length_drop]; omega) (by rw [← List.append_assoc, over_cat (A := (flatR rcells (ss.take n)) ++ (flatR rcells [r])) (by rw [List.length_append, hA, hr0]; omega)]) ?_
    refine sq_nil ?_
    refine ex_then ?_
    refine cw_seq ?_
    refine cw_region ?_
    refine sq_r (ry_move rfl) ?_
    refine sq_r (ry_assign rfl) ?_
    refine sq_nil ?_
    refine ex_then ?_
    refine cw_ret ?_
    refine ex_pass_ret ?_
    refine ex_ret (.inl rfl) (res_1 rfl (rv_tmp rfl)) (fun w1 hw => ?_)
    refine ⟨(⟨false, b40, 0, ss.length + 1, C40, none⟩ : Sv), rfl, trivial, ?_⟩
    rw [show ((flatR rcells (ss.take n)) ++ (flatR rcells [r])) ++ ((flatR rcells (ss.drop n)) ++ (Z40.drop 19).drop (flatR rcells (ss.drop n)).length) = [] ++ (flatR rcells (ss.take n ++ r :: ss.drop n) ++ (Z40.drop 19).drop (flatR rcells (ss.drop n)).length) from by rw [hfin]; simp only [List.append_assoc, List.nil_append]] at hw
    have hw2 := own_shut (enc := rcells) (i := 0) (xs := ss.take n ++ r :: ss.drop n) (pre := []) (mid := (Z40.drop 19).drop (flatR rcells (ss.drop n)).length) hw rfl (⟨false, b40, 0, ss.length + 1, C40, none⟩ : Sv) ⟨(fun h => by cases h), by simp only; omega, by simp only; omega, fun _ => rfl⟩ rfl rfl rfl rfl (by rw [hlf]) (by rw [hlf]; simp only [List.length_nil, List.length_drop]; omega)
    rw [List.set_cons_zero] at hw2
    exact Keep.mem hw2
   ·
    try simp only [bz0, bz1, bz2, bz3, bz4, bz5, bz6, bz7, bz8, bz9] at h2
    obtain ⟨s1, hs1⟩ : ∃ z : Sv, z = ⟨false, s.b, s.o, ss.length + 1, s.cap, none⟩ := ⟨_, rfl⟩
    refine cw_skip ?_
    refine ex_then ?_
    refine cw_seq ?_
    refine cw_region ?_
    refine sq_r (ry_move rfl) ?_
    refine sq_r (ry_move rfl) ?_
    refine sq_r (ry_move rfl) ?_
    refine sq_r (ry_add rfl rfl (by omega)) ?_
    refine sq_r (Ry.to (v' := s1.val) (ry_subS_hi (h := ss.length + 1) rfl rfl rfl hok (by omega)) (by rw [hs1, Sv.sub_eq hnil hsp])) ?_
    refine sq_r (ry_assign rfl) ?_
    refine sq_nil ?_
    refine ex_then ?_
    refine cw_seq ?_
    refine cw_seq ?_
    refine cw_region ?_
    refine sq_r (ry_move rfl) ?_
    refine sq_r (ry_move rfl) ?_
    refine sq_r (ry_move rfl) ?_
    refine sq_r (ry_move rfl) ?_
    refine sq_r (ry_add rfl rfl (by omega)) ?_
    refine sq_r (ry_subS_lo (s := s1) (l := n + 1) (n := ss.length + 1) rfl rfl rfl (by rw [hs1]; exact ⟨(fun h => by cases h), by simp only; omega, by simp only; omega, fun _ => rfl⟩) (by rw [hs1]) (by omega)) ?_
    refine sq_r (ry_overlaps (V := v) (D := s1.sub 19 (n + 1) (ss.length + 1)) (b := s.b) (xs := [r]) rfl rfl (by decide) (by simp) (by rw [hs1]; rfl) (by rw [hs1]; rfl) (by rw [hs1]; rfl) (by simp only [List.size_toArray, List.length_append]; omega)) ?_
    refine sq_r (ry_not rfl) ?_
    refine sq_nil ?_
    refine ex_then ?_
    refine cw_cond rfl (fun h3 => ?_) (fun h3 => ?_)
    ·
     try simp only [bz0, bz1, bz2, bz3, bz4, bz5, bz6, bz7, bz8, bz9] at h3
     refine cw_seq ?_
     refine cw_tail 8 [] (by kernel_rfl) (by kernel_rfl) ?_
     simp only [List.take_succ_cons, List.take_zero]
     refine qt_r (ry_move rfl) ?_
     refine qt_r (ry_move rfl) ?_
     refine qt_r (ry_move rfl) ?_
     refine qt_r (ry_add rfl rfl (by omega)) ?_
     refine qt_r (ry_subS_lo (s := s1) (l := n + 1) (n := ss.length + 1) rfl rfl rfl (by rw [hs1]; exact ⟨(fun h => by cases h), by simp only; omega, by simp only; omega, fun _ => rfl⟩) (by rw [hs1]) (by omega)) ?_
     refine qt_r (ry_move rfl) ?_
     refine qt_r (ry_move rfl) ?_
     refine qt_r (ry_subS_lo (s := s1) (l := n) (n := ss.length + 1) rfl rfl rfl (by rw [hs1]; exact ⟨(fun h => by cases h), by simp only; omega, by simp only; omega, fun _ => rfl⟩) (by rw [hs1]) (by omega)) ?_
     refine qt_end ?_
     refine fr_nil ?_
     simp only [List.drop_succ_cons, List.drop_zero]
     refine sq_copyB (D := s1.sub 19 (n + 1) (ss.length + 1)) (S := s1.sub 19 n (ss.length + 1)) (b := s.b) (o := s.o + (n + 1) * 19) (n := ss.length - n) (vs := (flatR rcells (ss.drop n))) (cs' := (pre ++ ((flatR rcells (ss.take n)) ++ ((flatR rcells [x]) ++ ((flatR rcells (ss.drop n)) ++ ((flatR rcells (ss.drop (n + 1))) ++ mid).drop (flatR rcells (ss.drop n)).length)))).toArray) rfl rfl (by rw [hs1]; rfl) (by rw [hs1]; rfl) (by rw [hs1]; rfl) (by rw [hs1, Sv.sub_o (by show _ < s.cap; omega)]) (by rw [hs1]; rfl) (by rw [hs1]; rfl) (by rw [show ss.length - n = ss.length + 1 - (n + 1) from by omega]; exact min_r (a := ss.length + 1 - n) (by omega)) hB (fun w hw j u hj => by
      rw [hs1, Sv.sub_o (by show _ < s.cap; omega), Nat.add_assoc]
      exact hcs w _ hw (n * 19 + j) u (by rw [hss, List.getElem?_append_right (by omega), hA, Nat.add_sub_cancel_left]; exact hj)) (flatR_one _) (by simp only [List.size_toArray, List.length_append]; omega) (by
      rw [hss, show pre ++ (((flatR rcells (ss.take n)) ++ (flatR rcells (ss.drop n))) ++ mid) = (pre ++ ((flatR rcells (ss.take n)) ++ (flatR rcells [x]))) ++ ((flatR rcells (ss.drop (n + 1))) ++ mid) from by rw [hBe]; simp only [List.append_assoc], over_cat (A := pre ++ ((flatR rcells (ss.take n)) ++ (flatR rcells [x]))) (by simp only [List.length_append]; omega)]; simp only [List.append_assoc]) ?_
     refine sq_nil ?_
     refine ex_then ?_
     refine cw_seq ?_
     refine cw_region ?_
     refine sq_r (ry_move rfl) ?_
     refine sq_r (ry_move rfl) ?_
     refine sq_r (ry_subS_lo (s := s1) (l := n) (n := ss.length + 1) rfl rfl rfl (by rw [hs1]; exact ⟨(fun h => by cases h), by simp only; omega, by simp only; omega, fun _ => rfl⟩) (by rw [hs1]) (by omega)) ?_
     refine sq_r (ry_move rfl) ?_
     refine sq_copyB (D := s1.sub 19 n (ss.length + 1)) (S := v) (b := s.b) (o := s.o + n * 19) (n := 1) (vs := (flatR rcells [r])) (cs' := (pre ++ ((flatR rcells (ss.take n)) ++ ((flatR rcells [r]) ++ ((flatR rcells (ss.drop n)) ++ ((flatR rcells (ss.drop (n + 1))) ++ mid).drop (flatR rcells (ss.drop n)).length)))).toArray) rfl rfl (by rw [hs1]; rfl) (by rw [hs1]; rfl) (by rw [hs1]; rfl) (by rw [hs1, Sv.sub_o (by show _ < s.cap; omega)]) hvn hvs (by rw [hvl1]; exact min_l (b := ss.length + 1 - n) (by omega)) (by rw [hr0]) (fun w hw j u hj => own_cells (enc := rcells) (xs := [r]) (by decide) inferInstance hw hj) (flatR_one _) (by simp only [List.size_toArray, List.length_append]; omega) (by
      rw [← List.append_assoc pre, over_cat (A := pre ++ (flatR rcells (ss.take n))) (by rw [List.length_append]; omega), hr0, ← he0, List.drop_left, List.append_assoc]) ?_
     refine sq_nil ?_
     refine ex_then ?_
     refine cw_seq ?_
     refine cw_region ?_
     refine sq_r (ry_move rfl) ?_
     refine sq_r (ry_assign rfl) ?_
     refine sq_nil ?_
     refine ex_then ?_
     refine cw_ret ?_
     refine ex_pass_ret ?_
     refine ex_ret (.inl rfl) (res_1 rfl (rv_tmp rfl)) (fun w1 hw => ?_)
     refine ⟨s1, rfl, trivial, ?_⟩
     rw [show pre ++ ((flatR rcells (ss.take n)) ++ ((flatR rcells [r]) ++ ((flatR rcells (ss.drop n)) ++ ((flatR rcells (ss.drop (n + 1))) ++ mid).drop (flatR rcells (ss.drop n)).length))) = pre ++ (flatR rcells (ss.take n ++ r :: ss.drop n) ++ ((flatR rcells (ss.drop (n + 1))) ++ mid).drop (flatR rcells (ss.drop n)).length) from by rw [hfin]; simp only [List.append_assoc]] at hw
     have hw2 := own_shut (enc := rcells) (i := 0) (xs := ss.take n ++ r :: ss.drop n) (pre := pre) (mid := ((flatR rcells (ss.drop (n + 1))) ++ mid).drop (flatR rcells (ss.drop n)).length) hw rfl s1 (by rw [hs1]; exact ⟨(fun h => by cases h), by simp only; omega, by simp only; omega, fun _ => rfl⟩) (by rw [hs1]) (by rw [hs1]) (by rw [hs1]) (by rw [hs1]; exact hpl.symm) (by rw [hs1, hlf]) (by rw [hs1, hlf]; have := congrArg List.length hBe; simp only [List.length_append, List.length_drop] at this ⊢; omega)
     rw [List.set_cons_zero] at hw2
     exact Keep.mem hw2
    ·
     exfalso; simp at h3
instance sinsR_i {w0 : World} {L R1 L2 : List Ent} {i j : Nat} {s : Sv} {ss : List Rt} {v : Sv} {r : Rt} {n : Nat} [h : Owns L s rcells 19 ss i] [d1 : DelI L i R1] [q : Owns R1 v rcells 19 [r] j] [d2 : DelI R1 j L2] : FnC Try.prog 73 w0 L [s.val, .int .i64 (n : Nat), v.val] (Sv) (fun zz => zz.val) (fun zz => own rcells 19 zz (ss.take n ++ r :: ss.drop n) :: L2) (fun zz => True) (n ≤ ss.length ∧ ss.length ≤ 1000000) := ⟨fun hp w hw => sinsR_c w0 w L2 s ss v r n (mem_two h.h d1.h q.h d2.h hw) hp⟩

end Go.Proofs.Ytldkgicmfbofiaa

/- Changes of a table, as cells; a table is changed: walked. -/
namespace Go.Proofs.Ytldkgicmfbofiaa
open Go.Eng Go.Kb

instance : Enc chcells 20 := ⟨chcells_size, fun x => by
 have h : (rcells x.r).all (·.oneCell') = true := Enc.one x.r
 rw [chcells, Array.all_append, h]; simp [Value.oneCell']⟩
instance : Deep Ch := Deep.flat chcells 20
instance : FlatT Ch chcells 20 := ⟨rfl, fun _ => rfl⟩
instance : Plain Ch := ⟨fun _ => rfl⟩
instance (x : Ch) : SizeIs (chcells x) 20 := ⟨chcells_size x, Enc.one x⟩
instance (x : Ch) : PartAt (chcells x) 0 19 (rcells x.r) := ⟨rcells_size _, fun j hj => by rw [Nat.zero_add]; exact chcells_r x j hj⟩
instance (x : Ch) : PartAt (chcells x) 0 18 (pcells x.r.p) := ⟨pcells_size _, fun j hj => by rw [Nat.zero_add]; exact (chcells_r x j (by omega)).trans (rcells_p x.r j hj)⟩
instance (x : Ch) : CellAt (chcells x) 19 (.bool x.gone) := ⟨chcells_g x⟩
instance (x : Ch) : CellAt (chcells x) 18 (.int .u16 x.r.hop.toNat) := ⟨(chcells_r x 18 (by decide)).trans (rcells_hop x.r)⟩
instance (x : Ch) : CellAt (chcells x) 0 (.int .i64 x.r.p.bits) := ⟨(chcells_r x 0 (by decide)).trans ((rcells_p x.r 0 (by decide)).trans (pcells_0 x.r.p))⟩
instance (x : Ch) : CellAt (chcells x) 1 (.int .i64 x.r.p.len) := ⟨(chcells_r x 1 (by decide)).trans ((rcells_p x.r 1 (by decide)).trans (pcells_1 x.r.p))⟩
instance (x : Ch) : PartAt (chcells x) 2 16 (kcells x.r.p.key) := ⟨kcells_size _, fun j hj => (chcells_r x (2 + j) (by omega)).trans ((rcells_p x.r (2 + j) (by omega)).trans (pcells_k x.r.p j))⟩
instance : BuildT Try.prog 52 [] (.agg (chcells zch)) := ⟨fun w => by unfold chcells rcells pcells zch zroute; rw [kcells_zero]; kernel_rfl⟩
instance (r : Rt) : BuildT Try.prog 52 [(0, .agg (rcells r))] (.agg (chcells ⟨r, false⟩)) := ⟨fun w => by kernel_rfl⟩
instance : ZeroT Try.prog 52 (.agg (chcells zch)) := ⟨by unfold chcells rcells pcells zch zroute; rw [kcells_zero]; kernel_rfl⟩
theorem over_whole {cs vs : Array Value} (h : cs.size = vs.size) : over cs 0 vs = vs := by
 unfold over; apply Array.ext'; simp [← h]
set_option maxRecDepth 20000 in
theorem tchange_c (w0 w : World) (L : List Ent) (t : Sv) (ts : List Rt) (g : Ch) (hw : Mem w0 (own rcells 19 t ts :: L) w) (hpre : ts.length ≤ 1000) : Calls Try.prog 47 #[t.val, .agg (chcells g)] w fun e w' => ∃ zz : Sv, e = .returned (.tuple #[zz.val, .int .i64 (chgE ts g)]) ∧ (True) ∧ Mem w0 (own rcells 19 zz (chgL ts g) :: L) w' := by
 have hpn := placeN_le ts g.r.p
 refine calls_in (args := [_, _]) Try.func47 rfl Try.ntmps47 rfl hw ?_
 change Cw _ _ _ _ _ [(0, t.val), (1, .agg (chcells g))] (own rcells 19 t ts :: L)
 refine cw_seq ?_
 refine cw_region ?_
 refine sq_boxA rfl fun b3 => ?_
 refine sq_r (ry_assign rfl) ?_
 refine sq_r (ry_assign rfl) ?_
 refine sq_nil ?_
 refine ex_then ?_
 refine cw_seq ?_
 refine cw_seq ?_
 refine cw_region ?_
 refine sq_r (ry_field (o' := 0) rfl rfl) ?_
 refine sq_r (ry_field (o' := 0) rfl rfl) ?_
 refine sq_r (ry_part rfl) ?_
 refine sq_y (yl_callC rfl trivial) ?_
 refine sq_r (ry_not rfl) ?_
 refine sq_nil ?_
 refine ex_then ?_
 refine cw_cond rfl (fun h0 => ?_) (fun h0 => ?_)
 ·
  try simp only [bz0, bz1, bz2, bz3, bz4, bz5, bz6, bz7, bz8, bz9] at h0
  have hm : pmay g.r.p = false := h0
  have he : chgE ts g = 1 := by rw [chgE, if_neg (by rw [hm]; simp)]
  refine cw_seq ?_
  refine cw_region ?_
  refine sq_r (ry_move rfl) ?_
  refine sq_r (ry_assign rfl) ?_
  refine sq_r (ry_assign rfl) ?_
  refine sq_nil ?_
  refine ex_then ?_
  refine cw_ret ?_
  refine ex_pass_ret ?_
  refine ex_ret (.inl rfl) (res_2 rfl (rv_tmp rfl) (rv_tmp rfl)) (fun w1 hw => ?_)
  exact ⟨t, by rw [he], trivial, by rw [chgL, if_neg (by rw [he]; decide)]; exact Keep.mem hw⟩
 ·
  try simp only [bz0, bz1, bz2, bz3, bz4, bz5, bz6, bz7, bz8, bz9] at h0
  have hm : pmay g.r.p = true := h0
  refine cw_skip ?_
  refine ex_then ?_
  refine cw_seq ?_
  refine cw_region ?_
  refine sq_r (ry_move rfl) ?_
  refine sq_r (ry_field (o' := 0) rfl rfl) ?_
  refine sq_r (ry_field (o' := 0) rfl rfl) ?_
  refine sq_r (ry_part rfl) ?_
  refine sq_y (yl_callC rfl (by omega)) ?_
  refine sq_r (ry_move rfl) ?_
  refine sq_r (ry_extract (v := .int .i64 ((placeN ts g.r.p : Nat) : Int)) rfl rfl) ?_
  refine sq_r (ry_extract (v := .bool (placeB ts g.r.p)) rfl rfl) ?_
  refine sq_r (ry_assign rfl) ?_
  refine sq_r (ry_assign rfl) ?_
  refine sq_nil ?_
  refine ex_then ?_
  refine cw_seq ?_
  refine cw_block ?_
  refine cw_seq ?_
  refine cw_region ?_
  refine sq_r (ry_field (o' := 19) rfl rfl) ?_
  refine sq_r (ry_cellc rfl) ?_
  refine sq_r (ry_move rfl) ?_
  refine sq_gt rfl rfl rfl (fun hg => (Ry.yl (ry_move rfl))) ?_
  refine sq_gt rfl rfl rfl (fun hg => (Ry.yl (ry_not (ev_c hg rfl)))) ?_
  refine sq_r (ry_and rfl rfl rfl) ?_
  refine sq_r (ry_assign rfl) ?_
  refine sq_nil ?_
  refine ex_then ?_
  refine cw_cond rfl (fun h1 => ?_) (fun h1 => ?_)
  ·
   try simp only [bz0, bz1, bz2, bz3, bz4, bz5, bz6, bz7, bz8, bz9] at h1
   have he : chgE ts g = 6 := by rw [chgE, if_pos hm, if_neg (by rw [h1.2]; simp), if_pos h1.1]
   refine cw_seq ?_
   refine cw_region ?_
   refine sq_r (ry_move rfl) ?_
   refine sq_r (ry_assign rfl) ?_
   refine sq_r (ry_assign rfl) ?_
   refine sq_nil ?_
   refine ex_then ?_
   refine cw_ret ?_
   refine ex_block_ret ?_
   refine ex_pass_ret ?_
   refine ex_ret (.inl rfl) (res_2 rfl (rv_tmp rfl) (rv_tmp rfl)) (fun w1 hw => ?_)
   exact ⟨t, by rw [he], trivial, by rw [chgL, if_neg (by rw [he]; decide)]; exact Keep.mem hw⟩
  ·
   try simp only [bz0, bz1, bz2, bz3, bz4, bz5, bz6, bz7, bz8, bz9] at h1
   refine cw_seq ?_
   refine cw_region ?_
   refine sq_r (ry_field (o' := 19) rfl rfl) ?_
   refine sq_r (ry_cellc rfl) ?_
   refine sq_r (ry_assign rfl) ?_
   refine sq_nil ?_
   refine ex_then ?_
   refine cw_cond rfl (fun h2 => ?_) (fun h2 => ?_)
   ·
    try simp only [bz0, bz1, bz2, bz3, bz4, bz5, bz6, bz7, bz8, bz9] at h2
    have hb : placeB ts g.r.p = true := by rcases h1 with h | h; (rw [h2] at h; cases h); exact h
    have he : chgE ts g = 0 := by rw [chgE, if_pos hm, if_pos hb]
    have hl : chgL ts g = ts.take (placeN ts g.r.p) ++ ts.drop ((placeN ts g.r.p) + 1) := by rw [chgL, if_pos he, if_pos h2]
    obtain ⟨r0, _, hr0, _⟩ := place_in hb
    have hpl := (List.getElem?_eq_some_iff.1 hr0).1
    refine cw_seq ?_
    refine cw_region ?_
    refine sq_r (ry_move rfl) ?_
    refine sq_r (ry_move rfl) ?_
    refine sq_r (ry_move rfl) ?_
    refine sq_r (Ry.to (v' := .int .i64 (((placeN ts g.r.p) + 1 : Nat) : Int)) (ry_add rfl rfl (by omega)) rfl) ?_
    refine sq_callC rfl ⟨by omega, by omega⟩ fun x37 hp37 => ?_
    refine sq_r (ry_assign rfl) ?_
    refine sq_r (ry_assign rfl) ?_
    refine sq_nil ?_
    refine ex_then ?_
    refine cw_ret ?_
    refine ex_block_ret ?_
    refine ex_pass_ret ?_
    refine ex_ret (.inl rfl) (res_2 rfl (rv_tmp rfl) (rv_tmp rfl)) (fun w1 hw => ?_)
    exact ⟨x37, by rw [he], trivial, by rw [hl]; exact Keep.mem hw⟩
   ·
    try simp only [bz0, bz1, bz2, bz3, bz4, bz5, bz6, bz7, bz8, bz9] at h2
    refine cw_seq ?_
    refine cw_region ?_
    refine sq_r (ry_move rfl) ?_
    refine sq_r (ry_assign rfl) ?_
    refine sq_nil ?_
    refine ex_then ?_
    refine cw_cond rfl (fun h3 => ?_) (fun h3 => ?_)
    ·
     try simp only [bz0, bz1, bz2, bz3, bz4, bz5, bz6, bz7, bz8, bz9] at h3
     have hb : placeB ts g.r.p = true := h3
     have he : chgE ts g = 0 := by rw [chgE, if_pos hm, if_pos hb]
     have hl : chgL ts g = ts.set (placeN ts g.r.p) g.r := by rw [chgL, if_pos he, if_neg (by rw [h2]; simp), if_pos hb]
     obtain ⟨r0, _, hr0, _⟩ := place_in hb
     have hpl := (List.getElem?_eq_some_iff.1 hr0).1
     refine cw_seq ?_
     refine cw_region ?_
     refine sq_r (ry_move rfl) ?_
     refine sq_r (ry_move rfl) ?_
     refine sq_r (ry_field (o' := 0) rfl rfl) ?_
     refine sq_r (ry_part rfl) ?_
     refine sq_r (ry_idxH rfl rfl (placeN ts g.r.p) rfl hpl) ?_
     refine sq_storeS (n := 19) (k := (placeN ts g.r.p)) (j := 0) (a := r0) (a' := g.r) (xs := ts) (enc := rcells) (c := 19) (v := .agg (rcells g.r)) (by kernel_rfl) rfl rfl rfl hr0 (Enc.one g.r) (rcells_size g.r) (by decide) (over_whole (by rw [rcells_size]; exact (rcells_size g.r).symm)) ?_
     refine sq_nil ?_
     refine ex_then ?_
     refine cw_seq ?_
     refine cw_region ?_
     refine sq_r (ry_move rfl) ?_
     refine sq_r (ry_assign rfl) ?_
     refine sq_r (ry_assign rfl) ?_
     refine sq_nil ?_
     refine ex_then ?_
     refine cw_ret ?_
     refine ex_block_ret ?_
     refine ex_pass_ret ?_
     refine ex_ret (.inl rfl) (res_2 rfl (rv_tmp rfl) (rv_tmp rfl)) (fun w1 hw => ?_)
     exact ⟨t, by rw [he], trivial, by rw [hl]; exact Keep.mem hw⟩
    ·
     try simp only [bz0, bz1, bz2, bz3, bz4, bz5, bz6, bz7, bz8, bz9] at h3
     refine cw_seq ?_
     refine cw_region ?_
     refine sq_r (ry_move rfl) ?_
     refine sq_r (ry_lenH rfl) ?_
     refine sq_r (ry_int rfl rfl rfl) ?_
     refine sq_r (ry_assign rfl) ?_
     refine sq_nil ?_
     refine ex_then ?_
     refine cw_cond rfl (fun h4 => ?_) (fun h4 => ?_)
     ·
      try simp only [bz0, bz1, bz2, bz3, bz4, bz5, bz6, bz7, bz8, bz9] at h4
      have he : chgE ts g = 5 := by rw [chgE, if_pos hm, if_neg (by rw [h3]; simp), if_neg (by rw [h2]; simp), if_pos (by omega)]
      refine cw_seq ?_
      refine cw_region ?_
      refine sq_r (ry_move rfl) ?_
      refine sq_r (ry_assign rfl) ?_
      refine sq_r (ry_assign rfl) ?_
      refine sq_nil ?_
      refine ex_then ?_
      refine cw_ret ?_
      refine ex_block_ret ?_
      refine ex_pass_ret ?_
      refine ex_ret (.inl rfl) (res_2 rfl (rv_tmp rfl) (rv_tmp rfl)) (fun w1 hw => ?_)
      exact ⟨t, by rw [he], trivial, by rw [chgL, if_neg (by rw [he]; decide)]; exact Keep.mem hw⟩
     ·
      try simp only [bz0, bz1, bz2, bz3, bz4, bz5, bz6, bz7, bz8, bz9] at h4
      have he : chgE ts g = 0 := by rw [chgE, if_pos hm, if_neg (by rw [h3]; simp), if_neg (by rw [h2]; simp), if_neg (by omega)]
      have hl : chgL ts g = ts.take (placeN ts g.r.p) ++ g.r :: ts.drop (placeN ts g.r.p) := by rw [chgL, if_pos he, if_neg (by rw [h2]; simp), if_neg (by rw [h3]; simp)]
      refine cw_skip ?_
      refine ex_block ?_
      refine ex_then ?_
      refine cw_seq ?_
      refine cw_region ?_
      refine sq_r (ry_move rfl) ?_
      refine sq_r (ry_move rfl) ?_
      refine sq_r (ry_field (o' := 0) rfl rfl) ?_
      refine sq_r (ry_part rfl) ?_
      refine sq_buildSlice (enc := rcells) (vals := [_]) [g.r] rfl rfl rfl (by decide) (by decide) fun b55 => ?_
      refine sq_callC rfl ⟨by omega, by omega⟩ fun x56 hp56 => ?_
      refine sq_r (ry_assign rfl) ?_
      refine sq_r (ry_assign rfl) ?_
      refine sq_nil ?_
      refine ex_then ?_
      refine cw_ret ?_
      refine ex_ret (.inl rfl) (res_2 rfl (rv_tmp rfl) (rv_tmp rfl)) (fun w1 hw => ?_)
      exact ⟨x56, by rw [he], trivial, by rw [hl]; exact Keep.mem hw⟩
instance tchange_i {w0 : World} {L R : List Ent} {i : Nat} {t : Sv} {ts : List Rt} {g : Ch} [q : Owns L t rcells 19 ts i] [d : DelI L i R] : FnC Try.prog 47 w0 L [t.val, .agg (chcells g)] (Sv) (fun zz => .tuple #[zz.val, .int .i64 (chgE ts g)]) (fun zz => own rcells 19 zz (chgL ts g) :: R) (fun zz => True) (ts.length ≤ 1000) := ⟨fun hp w hw => tchange_c w0 w R t ts g (mem_one q.h d.h hw) hp⟩
set_option maxRecDepth 20000 in
theorem tapply_c (w : World) (t : Sv) (ts : List Rt) (l : Sv) (ls : List Ch) (ht : Lies rcells 19 (hp w) t ts) (hl : Lies chcells 20 (hp w) l ls) (hpre : ts.length ≤ 1000000) : Calls Try.prog 15 #[t.val, l.val] w fun e w' => ∃ zz : Sv, e = .returned (.tuple #[zz.val, .int .i64 (appE ts ls)]) ∧ (True) ∧ Mem w [own rcells 19 zz (appL ts ls)] w' := by
 have ght : Gv w t rcells 19 ts := ⟨ht⟩
 have ghl : Gv w l chcells 20 ls := ⟨hl⟩
 have hlb := hl.bd
 refine calls_of (args := [_, _]) Try.func15 rfl Try.ntmps15 rfl ?_
 change Cw _ _ _ _ _ [(0, t.val), (1, l.val)] []
 refine cw_seq ?_
 refine cw_region ?_
 refine sq_r (ry_assign rfl) ?_
 refine sq_r (ry_assign rfl) ?_
 refine sq_nil ?_
 refine ex_then ?_
 refine cw_seq ?_
 refine cw_seq ?_
 refine cw_region ?_
 refine sq_r (ry_move rfl) ?_
 refine sq_y (yl_callC rfl trivial) ?_
 refine sq_r (ry_not rfl) ?_
 refine sq_nil ?_
 refine ex_then ?_
 refine cw_cond rfl (fun h0 => ?_) (fun h0 => ?_)
 ·
  try simp only [bz0, bz1, bz2, bz3, bz4, bz5, bz6, bz7, bz8, bz9] at h0
  have he : appE ts ls = 1 := if_neg (by rw [h0]; simp)
  have ha : appL ts ls = ts := by rw [appL, if_neg (by rw [he]; decide)]
  refine cw_seq ?_
  refine cw_region ?_
  refine sq_r (ry_move rfl) ?_
  refine sq_callC rfl (by omega) fun x14 hp14 => ?_
  refine sq_r (ry_assign rfl) ?_
  refine sq_r (ry_assign rfl) ?_
  refine sq_nil ?_
  refine ex_then ?_
  refine cw_ret ?_
  refine ex_pass_ret ?_
  refine ex_ret (.inl rfl) (res_2 rfl (rv_tmp rfl) (rv_tmp rfl)) (fun w1 hw => ?_)
  exact ⟨x14, by rw [he], trivial, by rw [ha]; exact Keep.mem hw⟩
 ·
  try simp only [bz0, bz1, bz2, bz3, bz4, bz5, bz6, bz7, bz8, bz9] at h0
  have hr : tright ts = true := h0
  have hlen := tr_len hr
  refine cw_skip ?_
  refine ex_then ?_
  refine cw_seq ?_
  refine cw_region ?_
  refine sq_r (ry_move rfl) ?_
  refine sq_callC rfl (by omega) fun x16 hp16 => ?_
  refine sq_r (ry_assign rfl) ?_
  refine sq_nil ?_
  refine ex_then ?_
  refine cw_seq ?_
  refine cw_seq ?_
  refine cw_region ?_
  refine sq_r (ry_move rfl) ?_
  refine sq_r (ry_lenH rfl) ?_
  refine sq_r (ry_move rfl) ?_
  refine sq_nil ?_
  refine ex_then ?_
  refine cw_block ?_
  refine cw_loop (X := Nat × Sv × List Rt) (fun zz => [(19, .int .i64 (zz.1 : Nat)), (6, zz.2.1.val), (0, t.val), (17, l.val), (18, .int .i64 (ls.length : Nat))]) (fun zz => [own rcells 19 zz.2.1 zz.2.2]) (fun zz => zz.1 ≤ ls.length ∧ appF ts ls = appF zz.2.2 (ls.drop zz.1) ∧ zz.2.2.length ≤ 256) (fun zz => ls.length - zz.1) (0, x16, ts) ⟨Nat.zero_le _, rfl, hlen⟩ (Sub.cons rfl (Sub.cons rfl (Sub.cons rfl (Sub.cons rfl (Sub.cons rfl (Sub.nil _)))))) (fun w hw => Keep.mem hw) ?_
  rintro ⟨i, s1, q⟩ ⟨hi1, hi2, hi3⟩
  dsimp only
  simp only at hi1 hi2 hi3
  refine cw_seq ?_
  refine cw_region ?_
  refine sq_r (ry_int rfl rfl rfl) ?_
  refine sq_nil ?_
  refine ex_then ?_
  refine cw_seq ?_
  refine cw_cond rfl (fun h1 => ?_) (fun h1 => ?_)
  ·
   try simp only [bz0, bz1, bz2, bz3, bz4, bz5, bz6, bz7, bz8, bz9] at h1
   refine cw_skip ?_
   refine ex_then ?_
   refine cw_seq ?_
   refine cw_block ?_
   refine cw_seq ?_
   refine cw_region ?_
   obtain ⟨g, hg⟩ := get_some (xs := ls) (i := i) (by omega)
   refine sq_r (ry_idxH rfl rfl i rfl (by omega)) ?_
   refine sq_r (ry_elemH rfl i hg rfl) ?_
   refine sq_allocA fun b8 => ?_
   refine sq_storeW rfl rfl ?_
   refine sq_nil ?_
   refine ex_then ?_
   refine cw_seq ?_
   refine cw_region ?_
   refine sq_r (ry_assign rfl) ?_
   refine sq_nil ?_
   refine ex_then ?_
   refine cw_seq ?_
   refine cw_region ?_
   refine sq_r (ry_move rfl) ?_
   refine sq_r (ry_whole rfl) ?_
   refine sq_callC rfl (by omega) fun x26 hp26 => ?_
   refine sq_r (ry_move rfl) ?_
   refine sq_r (ry_extract (v := x26.val) rfl rfl) ?_
   refine sq_r (ry_extract (v := .int .i64 (chgE q g)) rfl rfl) ?_
   refine sq_r (ry_assign rfl) ?_
   refine sq_r (ry_assign rfl) ?_
   refine sq_nil ?_
   refine ex_then ?_
   refine cw_seq ?_
   refine cw_region ?_
   refine sq_r (ry_move rfl) ?_
   refine sq_r (ry_int rfl rfl rfl) ?_
   refine sq_nil ?_
   refine ex_then ?_
   refine cw_cond rfl (fun h2 => ?_) (fun h2 => ?_)
   ·
    try simp only [bz0, bz1, bz2, bz3, bz4, bz5, bz6, bz7, bz8, bz9] at h2
    have hce : ¬ chgE q g = 0 := h2
    have ef : appF ts ls = (q, chgE q g) := by rw [hi2, appF_step hg, if_neg hce]
    have he : appE ts ls = chgE q g := by rw [appE, if_pos hr, ef]
    have ha : appL ts ls = ts := by rw [appL, if_neg (by rw [he]; exact hce)]
    refine cw_seq ?_
    refine cw_region ?_
    refine sq_r (ry_move rfl) ?_
    refine sq_callC rfl (by omega) fun x32 hp32 => ?_
    refine sq_r (ry_move rfl) ?_
    refine sq_r (ry_assign rfl) ?_
    refine sq_r (ry_assign rfl) ?_
    refine sq_nil ?_
    refine ex_then ?_
    refine cw_ret ?_
    refine ex_block_ret ?_
    refine ex_pass_ret ?_
    refine ex_pass_ret ?_
    refine ex_block_ret ?_
    refine ex_pass_ret ?_
    refine ex_ret (.inl rfl) (res_2 rfl (rv_tmp rfl) (rv_tmp rfl)) (fun w1 hw => ?_)
    exact ⟨x32, by rw [he], trivial, by rw [ha]; exact Keep.mem hw⟩
   ·
    try simp only [bz0, bz1, bz2, bz3, bz4, bz5, bz6, bz7, bz8, bz9] at h2
    refine cw_skip ?_
    refine ex_block ?_
    refine ex_then ?_
    refine cw_region ?_
    refine sq_r (ry_add rfl rfl (by omega)) ?_
    refine sq_r (ry_move rfl) ?_
    refine sq_nil ?_
    exact ex_again (x := (i, s1, q)) (i + 1, x26, chgL q g) ⟨by first | omega | (simp only []; omega), by rw [hi2, appF_step hg, if_pos h2], chgL_len hi3 g⟩ (by simp only; omega) (Sub.cons rfl (Sub.cons rfl (Sub.cons rfl (Sub.cons rfl (Sub.cons rfl (Sub.nil _)))))) (fun w hw => Keep.mem hw)
  ·
   try simp only [bz0, bz1, bz2, bz3, bz4, bz5, bz6, bz7, bz8, bz9] at h1
   obtain rfl : i = ls.length := by omega
   have ef : appF ts ls = (q, 0) := by rw [hi2, List.drop_length]; rfl
   have he : appE ts ls = 0 := by rw [appE, if_pos hr, ef]
   have ha : appL ts ls = q := by rw [appL, if_pos he, ef]
   refine cw_exit ?_
   refine ex_pass_exit ?_
   refine ex_pass_exit ?_
   refine ex_block_hit ?_
   refine ex_then ?_
   refine cw_seq ?_
   refine cw_region ?_
   refine sq_r (ry_move rfl) ?_
   refine sq_r (ry_assign rfl) ?_
   refine sq_r (ry_assign rfl) ?_
   refine sq_nil ?_
   refine ex_then ?_
   refine cw_ret ?_
   refine ex_ret (.inl rfl) (res_2 rfl (rv_tmp rfl) (rv_tmp rfl)) (fun w1 hw => ?_)
   exact ⟨s1, by rw [he], trivial, by rw [ha]; exact Keep.mem hw⟩
instance tapply_i {w0 : World} {L : List Ent} {t : Sv} {ts : List Rt} {l : Sv} {ls : List Ch} [ht : HdE w0 L rcells 19 t ts] [hl : HdE w0 L chcells 20 l ls] : FnC Try.prog 15 w0 L [t.val, l.val] (Sv) (fun zz => .tuple #[zz.val, .int .i64 (appE ts ls)]) (fun zz => own rcells 19 zz (appL ts ls) :: L) (fun zz => True) (ts.length ≤ 1000000) := ⟨fun hp w hw => (tapply_c w t ts l ls (ht.h w hw) (hl.h w hw) hp).mono fun e w' ⟨x, h1, h2, h3⟩ => ⟨x, h1, h2, hw.call h3⟩⟩

end Go.Proofs.Ytldkgicmfbofiaa

/- Tables by the reference: walked. -/
namespace Go.Proofs.Ytldkgicmfbofiaa
open Go.Eng Go.Kb

theorem partCB (d : Nat) : PartT Try.prog (d + 1) 4 false [1] := ⟨⟨_, Try.underlying4, rfl⟩, by kernel_rfl, fun _ => rfl, eqF_bool Try.underlying4⟩
theorem stoodC : Try.prog.stoodInHeld 52 = false := by kernel_rfl
theorem partC (d : Nat) : PartT Try.prog (d + 1 + 1 + 1 + 1 + 1) 52 true ((([0] ++ ([0] ++ ((List.replicate 16 [0]).flatten ++ []))) ++ ([0] ++ [])) ++ ([1] ++ [])) := ⟨⟨_, Try.underlying52, rfl⟩, by kernel_rfl, (fun h => by cases h),
 eqF_struct Try.underlying52 stoodC ⟨by decide, rfl, _, _, _, rfl, partR d, by decide, rfl, _, _, _, rfl, partCB _, rfl⟩⟩
theorem guardC : Try.prog.eqGuardType Try.prog.depth 52 = false := by kernel_rfl
instance (a b : Ch) : EqV Try.prog 52 (.agg (chcells a)) (.agg (chcells b)) (decide (a = b)) :=
 (partC 9995).eq.val rfl guardC (chcells_size a) (chcells_size b) (fun i k hk => by
  have hi : i < 20 := (List.getElem?_eq_some_iff.1 hk).1
  rcases Nat.lt_or_ge i 19 with h | h
  ·
   have h0 : k = 0 := by
    rw [List.getElem?_append_left (by exact h)] at hk
    have : k ∈ (([0] ++ ([0] ++ ((List.replicate 16 [0]).flatten ++ []))) ++ ([0] ++ [])) := List.mem_of_getElem? hk
    simpa using this
   subst h0
   match i, h with
   | 0, _ => exact ⟨_, _, (inferInstance : CellAt (chcells a) 0 _).h, (inferInstance : CellAt (chcells b) 0 _).h, rfl⟩
   | 1, _ => exact ⟨_, _, (inferInstance : CellAt (chcells a) 1 _).h, (inferInstance : CellAt (chcells b) 1 _).h, rfl⟩
   | j + 2, h =>
    rcases Nat.lt_or_ge j 16 with h2 | h2
    ·
     rw [Nat.add_comm j 2]
     exact ⟨_, _, (chcells_r a _ (by omega)).trans ((rcells_p a.r _ (by omega)).trans ((pcells_k a.r.p j).trans (kcells_get _ j h2))), (chcells_r b _ (by omega)).trans ((rcells_p b.r _ (by omega)).trans ((pcells_k b.r.p j).trans (kcells_get _ j h2))), rfl⟩
    ·
     obtain rfl : j = 16 := by omega
     exact ⟨_, _, (chcells_r a 18 (by decide)).trans (rcells_hop a.r), (chcells_r b 18 (by decide)).trans (rcells_hop b.r), rfl⟩
  ·
   obtain rfl : i = 19 := by omega
   have h0 : k = 1 := by simpa using hk.symm
   subst h0
   exact ⟨_, _, chcells_g a, chcells_g b, trivial⟩) (by rw [decide_eq_true_iff]; exact ⟨chcells_inj, fun h => by rw [h]⟩)
set_option maxRecDepth 20000 in
theorem r3get_c (w : World) (t : Sv) (ts : List Rt) (p : Pfx) (ht : Lies rcells 19 (hp w) t ts) : Calls Try.prog 22 #[t.val, .agg (pcells p)] w fun e w' => e = .returned (.tuple #[.int .u16 ((rgetH ts p).toNat : Nat), .int .i64 (rgetE ts p)]) ∧ Mem w [] w' := by
 have ght : Gv w t rcells 19 ts := ⟨ht⟩
 have htb := ht.bd
 refine calls_of (args := [_, _]) Try.func22 rfl Try.ntmps22 rfl ?_
 change Cw _ _ _ _ _ [(0, t.val), (1, .agg (pcells p))] []
 refine cw_seq ?_
 refine cw_region ?_
 refine sq_boxA rfl fun b3 => ?_
 refine sq_r (ry_assign rfl) ?_
 refine sq_r (ry_assign rfl) ?_
 refine sq_nil ?_
 refine ex_then ?_
 refine cw_seq ?_
 refine cw_seq ?_
 refine cw_region ?_
 refine sq_r (ry_whole rfl) ?_
 refine sq_y (yl_callC rfl trivial) ?_
 refine sq_r (ry_not rfl) ?_
 refine sq_nil ?_
 refine ex_then ?_
 refine cw_cond rfl (fun h0 => ?_) (fun h0 => ?_)
 ·
  try simp only [bz0, bz1, bz2, bz3, bz4, bz5, bz6, bz7, bz8, bz9] at h0
  have hz := rget_bad (t := ts) (q := p) h0
  refine cw_seq ?_
  refine cw_region ?_
  refine sq_r (ry_assign rfl) ?_
  refine sq_r (ry_assign rfl) ?_
  refine sq_nil ?_
  refine ex_then ?_
  refine cw_ret ?_
  refine ex_pass_ret ?_
  refine ex_ret (.inl rfl) (res_2 rfl (rv_tmp rfl) (rv_tmp rfl)) (fun w1 hw => ?_)
  exact ⟨by rw [hz.1, hz.2]; rfl, Keep.mem hw⟩
 ·
  try simp only [bz0, bz1, bz2, bz3, bz4, bz5, bz6, bz7, bz8, bz9] at h0
  have hm : pmay p = true := h0
  refine cw_skip ?_
  refine ex_then ?_
  refine cw_seq ?_
  refine cw_seq ?_
  refine cw_region ?_
  refine sq_r (ry_assign rfl) ?_
  refine sq_nil ?_
  refine ex_then ?_
  refine cw_block ?_
  refine cw_loop (X := Nat) (fun zz => [(6, .int .i64 (zz : Nat)), (0, t.val), (3, .pointer (some ⟨b3, 0, none⟩))]) (fun zz => [blk b3 (pcells p) 26]) (fun zz => zz ≤ ts.length ∧ ∀ x ∈ ts.take zz, x.p ≠ p) (fun zz => ts.length - zz) 0 ⟨Nat.zero_le _, by simp⟩ (Sub.cons rfl (Sub.cons rfl (Sub.cons rfl (Sub.nil _)))) (fun w hw => Keep.mem hw) ?_
  rintro i ⟨hi1, hi2⟩
  refine cw_seq ?_
  refine cw_seq ?_
  refine cw_region ?_
  refine sq_r (ry_move rfl) ?_
  refine sq_r (ry_move rfl) ?_
  refine sq_r (ry_lenH rfl) ?_
  refine sq_r (ry_int rfl rfl rfl) ?_
  refine sq_nil ?_
  refine ex_then ?_
  refine cw_cond rfl (fun h1 => ?_) (fun h1 => ?_)
  ·
   try simp only [bz0, bz1, bz2, bz3, bz4, bz5, bz6, bz7, bz8, bz9] at h1
   obtain ⟨e, he⟩ := get_some (xs := ts) (i := i) (by omega)
   refine cw_skip ?_
   refine ex_then ?_
   refine cw_seq ?_
   refine cw_block ?_
   refine cw_seq ?_
   refine cw_quiet (by kernel_rfl) (by kernel_rfl) ?_
   refine qt_r (ry_move rfl) ?_
   refine qt_r (ry_move rfl) ?_
   refine qt_r (ry_idxH rfl rfl i rfl (by omega)) ?_
   refine qt_r (ry_field rfl rfl) ?_
   refine qt_r (ry_elempH (j := 0) rfl i he rfl (by decide)) ?_
   refine qt_r (ry_whole rfl) ?_
   refine qt_r (ry_eq rfl rfl) ?_
   refine qt_nil ?_
   refine ex_then ?_
   refine cw_cond rfl (fun h2 => ?_) (fun h2 => ?_)
   ·
    try simp only [bz0, bz1, bz2, bz3, bz4, bz5, bz6, bz7, bz8, bz9] at h2
    have hz := rget_hit hm hi2 he h2
    refine cw_seq ?_
    refine cw_region ?_
    refine sq_r (ry_move rfl) ?_
    refine sq_r (ry_move rfl) ?_
    refine sq_r (ry_idxH rfl rfl i rfl (by omega)) ?_
    refine sq_r (ry_field rfl rfl) ?_
    refine sq_r (ry_elemcH (j := 18) rfl i he rfl (by decide)) ?_
    refine sq_r (ry_assign rfl) ?_
    refine sq_r (ry_assign rfl) ?_
    refine sq_nil ?_
    refine ex_then ?_
    refine cw_ret ?_
    refine ex_block_ret ?_
    refine ex_pass_ret ?_
    refine ex_pass_ret ?_
    refine ex_block_ret ?_
    refine ex_pass_ret ?_
    refine ex_ret (.inl rfl) (res_2 rfl (rv_tmp rfl) (rv_tmp rfl)) (fun w1 hw => ?_)
    exact ⟨by rw [hz.1, hz.2], Keep.mem hw⟩
   ·
    try simp only [bz0, bz1, bz2, bz3, bz4, bz5, bz6, bz7, bz8, bz9] at h2
    refine cw_skip ?_
    refine ex_block ?_
    refine ex_then ?_
    refine cw_region ?_
    refine sq_r (ry_move rfl) ?_
    refine sq_r (ry_add rfl rfl (by omega)) ?_
    refine sq_r (ry_assign rfl) ?_
    refine sq_nil ?_
    exact ex_again (x := (i)) (i + 1) ⟨by first | omega | (simp only []; omega), take_succ_all hi2 he h2⟩ (by first | omega | (simp only []; omega)) (Sub.cons rfl (Sub.cons rfl (Sub.cons rfl (Sub.nil _)))) (fun w hw => Keep.mem hw)
  ·
   try simp only [bz0, bz1, bz2, bz3, bz4, bz5, bz6, bz7, bz8, bz9] at h1
   obtain rfl : i = ts.length := by omega
   have hz := rget_no hm (fun x hx => hi2 x (by rw [List.take_length]; exact hx))
   refine cw_exit ?_
   refine ex_pass_exit ?_
   refine ex_pass_exit ?_
   refine ex_block_hit ?_
   refine ex_then ?_
   refine cw_seq ?_
   refine cw_region ?_
   refine sq_r (ry_assign rfl) ?_
   refine sq_r (ry_assign rfl) ?_
   refine sq_nil ?_
   refine ex_then ?_
   refine cw_ret ?_
   refine ex_ret (.inl rfl) (res_2 rfl (rv_tmp rfl) (rv_tmp rfl)) (fun w1 hw => ?_)
   exact ⟨by rw [hz.1, hz.2]; rfl, Keep.mem hw⟩
instance r3get_i {w0 : World} {L : List Ent} {t : Sv} {ts : List Rt} {p : Pfx} [ht : HdE w0 L rcells 19 t ts] : FnQ Try.prog 22 w0 L [t.val, .agg (pcells p)] (.tuple #[.int .u16 ((rgetH ts p).toNat : Nat), .int .i64 (rgetE ts p)]) (True) := ⟨fun hp w hw => r3get_c w t ts p (ht.h w hw)⟩
set_option maxRecDepth 20000 in
theorem r3put_c (w : World) (t : Sv) (ts : List Rt) (r : Rt) (ht : Lies rcells 19 (hp w) t ts) (hpre : ts.length ≤ 100000) : Calls Try.prog 54 #[t.val, .agg (rcells r)] w fun e w' => ∃ zz : Sv, e = .returned (zz.val) ∧ (True) ∧ Mem w [own rcells 19 zz (putF r ts false)] w' := by
 have ght : Gv w t rcells 19 ts := ⟨ht⟩
 refine calls_of (args := [_, _]) Try.func54 rfl Try.ntmps54 rfl ?_
 change Cw _ _ _ _ _ [(0, t.val), (1, .agg (rcells r))] []
 refine cw_seq ?_
 refine cw_region ?_
 refine sq_boxA rfl fun b3 => ?_
 refine sq_r (ry_assign rfl) ?_
 refine sq_nil ?_
 refine ex_then ?_
 refine cw_seq ?_
 refine cw_region ?_
 refine sq_r (ry_assign rfl) ?_
 refine sq_nil ?_
 refine ex_then ?_
 refine cw_seq ?_
 refine cw_region ?_
 refine sq_r (ry_assign rfl) ?_
 refine sq_nil ?_
 refine ex_then ?_
 refine cw_seq ?_
 refine cw_seq ?_
 refine cw_region ?_
 refine sq_r (ry_assign rfl) ?_
 refine sq_nil ?_
 refine ex_then ?_
 refine cw_block ?_
 refine cw_loop (X := Nat × Sv × List Rt × Bool) (fun zz => [(7, .int .i64 (zz.1 : Nat)), (5, zz.2.1.val), (6, .bool zz.2.2.2), (0, t.val), (3, .pointer (some ⟨b3, 0, none⟩))]) (fun zz => [own rcells 19 zz.2.1 zz.2.2.1, blk b3 (rcells r) 34]) (fun zz => zz.1 ≤ ts.length ∧ putF r ts false = zz.2.2.1 ++ putF r (ts.drop zz.1) zz.2.2.2 ∧ zz.2.2.1.length ≤ 2 * zz.1) (fun zz => ts.length - zz.1) (0, Sv.none, [], false) ⟨Nat.zero_le _, rfl, Nat.le_refl _⟩ (Sub.cons rfl (Sub.cons rfl (Sub.cons rfl (Sub.cons rfl (Sub.cons rfl (Sub.nil _)))))) (fun w hw => Mem.nilOwn rcells 19 (Keep.mem hw)) ?_
 rintro ⟨i, o, q, dn⟩ ⟨hi1, hi2, hi3⟩
 dsimp only
 simp only at hi1 hi2 hi3
 refine cw_seq ?_
 refine cw_seq ?_
 refine cw_region ?_
 refine sq_r (ry_move rfl) ?_
 refine sq_r (ry_move rfl) ?_
 refine sq_r (ry_lenH rfl) ?_
 refine sq_r (ry_int rfl rfl rfl) ?_
 refine sq_nil ?_
 refine ex_then ?_
 refine cw_cond rfl (fun h0 => ?_) (fun h0 => ?_)
 ·
  try simp only [bz0, bz1, bz2, bz3, bz4, bz5, bz6, bz7, bz8, bz9] at h0
  obtain ⟨e, he⟩ := get_some (xs := ts) (i := i) (by omega)
  refine cw_skip ?_
  refine ex_then ?_
  refine cw_seq ?_
  refine cw_block ?_
  refine cw_seq ?_
  refine cw_seq ?_
  refine cw_quiet (by kernel_rfl) (by kernel_rfl) ?_
  refine qt_r (ry_move rfl) ?_
  refine qt_r (ry_not rfl) ?_
  refine qt_r (ry_move rfl) ?_
  refine qt_gt rfl rfl rfl (fun hg => (Ry.yl (ry_move rfl))) ?_
  refine qt_gt rfl rfl rfl (fun hg => (Ry.yl (ry_move rfl))) ?_
  refine qt_gt rfl rfl rfl (fun hg => (Ry.yl (ry_idxH (ev_c hg rfl) (ev_c hg rfl) i rfl (by simp only [bz0, bz1, bz2, bz3, bz4, bz5, bz6, bz7, bz8, bz9] at hg; omega)))) ?_
  refine qt_gt rfl rfl rfl (fun hg => (Ry.yl (ry_field (ev_c hg rfl) rfl))) ?_
  refine qt_gt rfl rfl rfl (fun hg => (Ry.yl (ry_elempH (j := 0) (ev_c hg rfl) i he rfl (by decide)))) ?_
  refine qt_gt rfl rfl rfl (fun hg => (Ry.yl (ry_field (o' := 0) rfl rfl))) ?_
  refine qt_gt rfl rfl rfl (fun hg => (Ry.yl (ry_part (ev_c hg rfl)))) ?_
  refine qt_gt rfl rfl rfl (fun hg => yl_callC (evl_cons (ev_c hg rfl) (evl_cons (ev_c hg rfl) evl_nil)) trivial) ?_
  refine qt_gt rfl rfl rfl (fun hg => (Ry.yl (ry_not (ev_c hg rfl)))) ?_
  refine qt_r (ry_and rfl rfl rfl) ?_
  refine qt_nil ?_
  refine ex_then ?_
  refine cw_cond rfl (fun h1 => ?_) (fun h1 => ?_)
  ·
   try simp only [bz0, bz1, bz2, bz3, bz4, bz5, bz6, bz7, bz8, bz9] at h1
   obtain ⟨h1a, h1b⟩ := h1
   refine cw_seq ?_
   refine cw_region ?_
   refine sq_r (ry_move rfl) ?_
   refine sq_r (ry_whole rfl) ?_
   refine sq_buildSlice (enc := rcells) (vals := [_]) [r] rfl rfl rfl (by decide) (by decide) fun b29 => ?_
   refine sq_append (s := o) (ys := [r]) rfl rfl (by decide) (fun w hw => src_rows (s := ⟨false, b29, 0, 1, 1, none⟩) Try.underlying22 (by decide) ((inferInstance : Hd _ _ ⟨false, b29, 0, 1, 1, none⟩ rcells 19 [r]).h w hw)) (by simp only [List.length_cons, List.length_nil]; omega) (by simp only [List.length_cons, List.length_nil]; omega) fun s30 hs30 hl30 => ?_
   refine sq_r (ry_assign rfl) ?_
   refine sq_nil ?_
   refine ex_then ?_
   refine cw_region ?_
   refine sq_r (ry_assign rfl) ?_
   refine sq_nil ?_
   refine ex_then ?_
   refine cw_seq ?_
   refine cw_quiet (by kernel_rfl) (by kernel_rfl) ?_
   refine qt_r (ry_move rfl) ?_
   refine qt_r (ry_move rfl) ?_
   refine qt_r (ry_idxH rfl rfl i rfl (by omega)) ?_
   refine qt_r (ry_field rfl rfl) ?_
   refine qt_r (ry_elempH (j := 0) rfl i he rfl (by decide)) ?_
   refine qt_r (ry_field (o' := 0) rfl rfl) ?_
   refine qt_r (ry_part rfl) ?_
   refine qt_r (ry_ne rfl rfl) ?_
   refine qt_nil ?_
   refine ex_then ?_
   refine cw_cond rfl (fun h2 => ?_) (fun h2 => ?_)
   ·
    try simp only [bz0, bz1, bz2, bz3, bz4, bz5, bz6, bz7, bz8, bz9] at h2
    refine cw_region ?_
    refine sq_r (ry_move rfl) ?_
    refine sq_r (ry_move rfl) ?_
    refine sq_r (ry_move rfl) ?_
    refine sq_r (ry_idxH rfl rfl i rfl (by omega)) ?_
    refine sq_r (ry_elemH rfl i he rfl) ?_
    refine sq_buildSlice (enc := rcells) (vals := [_]) [e] rfl rfl rfl (by decide) (by decide) fun b44 => ?_
    refine sq_append (s := s30) (ys := [e]) rfl rfl (by decide) (fun w hw => src_rows (s := ⟨false, b44, 0, 1, 1, none⟩) Try.underlying22 (by decide) ((inferInstance : Hd _ _ ⟨false, b44, 0, 1, 1, none⟩ rcells 19 [e]).h w hw)) (by simp only [List.length_append, List.length_cons, List.length_nil]; omega) (by simp only [List.length_append, List.length_cons, List.length_nil]; omega) fun s45 hs45 hl45 => ?_
    refine sq_r (ry_assign rfl) ?_
    refine sq_nil ?_
    refine ex_block ?_
    refine ex_then ?_
    refine cw_region ?_
    refine sq_r (ry_move rfl) ?_
    refine sq_r (ry_add rfl rfl (by omega)) ?_
    refine sq_r (ry_assign rfl) ?_
    refine sq_nil ?_
    exact ex_again (x := (i, o, q, dn)) (i + 1, s45, (q ++ [r]) ++ [e], true) ⟨by first | omega | (simp only []; omega), by rw [hi2, dropAt he, putF_yes h1a h1b, if_pos h2]; simp, by simp only [List.length_append, List.length_cons, List.length_nil]; omega⟩ (by simp only; omega) (Sub.cons rfl (Sub.cons rfl (Sub.cons rfl (Sub.cons rfl (Sub.cons rfl (Sub.nil _)))))) (fun w hw => Keep.mem hw)
   ·
    try simp only [bz0, bz1, bz2, bz3, bz4, bz5, bz6, bz7, bz8, bz9] at h2
    refine cw_skip ?_
    refine ex_block ?_
    refine ex_then ?_
    refine cw_region ?_
    refine sq_r (ry_move rfl) ?_
    refine sq_r (ry_add rfl rfl (by omega)) ?_
    refine sq_r (ry_assign rfl) ?_
    refine sq_nil ?_
    exact ex_again (x := (i, o, q, dn)) (i + 1, s30, q ++ [r], true) ⟨by first | omega | (simp only []; omega), by rw [hi2, dropAt he, putF_yes h1a h1b, if_neg (fun hn => hn h2)]; simp, by simp only [List.length_append, List.length_cons, List.length_nil]; omega⟩ (by simp only; omega) (Sub.cons rfl (Sub.cons rfl (Sub.cons rfl (Sub.cons rfl (Sub.cons rfl (Sub.nil _)))))) (fun w hw => Keep.mem hw)
  ·
   try simp only [bz0, bz1, bz2, bz3, bz4, bz5, bz6, bz7, bz8, bz9] at h1
   refine cw_skip ?_
   refine ex_then ?_
   refine cw_seq ?_
   refine cw_quiet (by kernel_rfl) (by kernel_rfl) ?_
   refine qt_r (ry_move rfl) ?_
   refine qt_r (ry_move rfl) ?_
   refine qt_r (ry_idxH rfl rfl i rfl (by omega)) ?_
   refine qt_r (ry_field rfl rfl) ?_
   refine qt_r (ry_elempH (j := 0) rfl i he rfl (by decide)) ?_
   refine qt_r (ry_field (o' := 0) rfl rfl) ?_
   refine qt_r (ry_part rfl) ?_
   refine qt_r (ry_ne rfl rfl) ?_
   refine qt_nil ?_
   refine ex_then ?_
   refine cw_cond rfl (fun h2 => ?_) (fun h2 => ?_)
   ·
    try simp only [bz0, bz1, bz2, bz3, bz4, bz5, bz6, bz7, bz8, bz9] at h2
    refine cw_region ?_
    refine sq_r (ry_move rfl) ?_
    refine sq_r (ry_move rfl) ?_
    refine sq_r (ry_move rfl) ?_
    refine sq_r (ry_idxH rfl rfl i rfl (by omega)) ?_
    refine sq_r (ry_elemH rfl i he rfl) ?_
    refine sq_buildSlice (enc := rcells) (vals := [_]) [e] rfl rfl rfl (by decide) (by decide) fun b44 => ?_
    refine sq_append (s := o) (ys := [e]) rfl rfl (by decide) (fun w hw => src_rows (s := ⟨false, b44, 0, 1, 1, none⟩) Try.underlying22 (by decide) ((inferInstance : Hd _ _ ⟨false, b44, 0, 1, 1, none⟩ rcells 19 [e]).h w hw)) (by simp only [List.length_append, List.length_cons, List.length_nil]; omega) (by simp only [List.length_append, List.length_cons, List.length_nil]; omega) fun s45 hs45 hl45 => ?_
    refine sq_r (ry_assign rfl) ?_
    refine sq_nil ?_
    refine ex_block ?_
    refine ex_then ?_
    refine cw_region ?_
    refine sq_r (ry_move rfl) ?_
    refine sq_r (ry_add rfl rfl (by omega)) ?_
    refine sq_r (ry_assign rfl) ?_
    refine sq_nil ?_
    exact ex_again (x := (i, o, q, dn)) (i + 1, s45, q ++ [e], dn) ⟨by first | omega | (simp only []; omega), by rw [hi2, dropAt he, putF_no h1, if_pos h2]; simp, by simp only [List.length_append, List.length_cons, List.length_nil]; omega⟩ (by simp only; omega) (Sub.cons rfl (Sub.cons rfl (Sub.cons rfl (Sub.cons rfl (Sub.cons rfl (Sub.nil _)))))) (fun w hw => Keep.mem hw)
   ·
    try simp only [bz0, bz1, bz2, bz3, bz4, bz5, bz6, bz7, bz8, bz9] at h2
    refine cw_skip ?_
    refine ex_block ?_
    refine ex_then ?_
    refine cw_region ?_
    refine sq_r (ry_move rfl) ?_
    refine sq_r (ry_add rfl rfl (by omega)) ?_
    refine sq_r (ry_assign rfl) ?_
    refine sq_nil ?_
    exact ex_again (x := (i, o, q, dn)) (i + 1, o, q, dn) ⟨by first | omega | (simp only []; omega), by rw [hi2, dropAt he, putF_no h1, if_neg (fun hn => hn h2)]; simp, by simp only [List.length_append, List.length_cons, List.length_nil]; omega⟩ (by simp only; omega) (Sub.cons rfl (Sub.cons rfl (Sub.cons rfl (Sub.cons rfl (Sub.cons rfl (Sub.nil _)))))) (fun w hw => Keep.mem hw)
 ·
  try simp only [bz0, bz1, bz2, bz3, bz4, bz5, bz6, bz7, bz8, bz9] at h0
  obtain rfl : i = ts.length := by omega
  refine cw_exit ?_
  refine ex_pass_exit ?_
  refine ex_pass_exit ?_
  refine ex_block_hit ?_
  refine ex_then ?_
  refine cw_seq ?_
  refine cw_seq ?_
  refine cw_region ?_
  refine sq_r (ry_move rfl) ?_
  refine sq_r (ry_not rfl) ?_
  refine sq_nil ?_
  refine ex_then ?_
  refine cw_cond rfl (fun h3 => ?_) (fun h3 => ?_)
  ·
   try simp only [bz0, bz1, bz2, bz3, bz4, bz5, bz6, bz7, bz8, bz9] at h3
   rw [h3, List.drop_length, putF, if_neg (by simp)] at hi2
   refine cw_region ?_
   refine sq_r (ry_move rfl) ?_
   refine sq_r (ry_whole rfl) ?_
   refine sq_buildSlice (enc := rcells) (vals := [_]) [r] rfl rfl rfl (by decide) (by decide) fun b50 => ?_
   refine sq_append (s := o) (ys := [r]) rfl rfl (by decide) (fun w hw => src_rows (s := ⟨false, b50, 0, 1, 1, none⟩) Try.underlying22 (by decide) ((inferInstance : Hd _ _ ⟨false, b50, 0, 1, 1, none⟩ rcells 19 [r]).h w hw)) (by simp only [List.length_cons, List.length_nil]; omega) (by simp only [List.length_cons, List.length_nil]; omega) fun s51 hs51 hl51 => ?_
   refine sq_r (ry_assign rfl) ?_
   refine sq_nil ?_
   refine ex_then ?_
   refine cw_seq ?_
   refine cw_region ?_
   refine sq_r (ry_move rfl) ?_
   refine sq_r (ry_assign rfl) ?_
   refine sq_nil ?_
   refine ex_then ?_
   refine cw_ret ?_
   refine ex_ret (.inl rfl) (res_1 rfl (rv_tmp rfl)) (fun w1 hw => ?_)
   exact ⟨s51, rfl, trivial, by rw [hi2]; exact Keep.mem hw⟩
  ·
   try simp only [bz0, bz1, bz2, bz3, bz4, bz5, bz6, bz7, bz8, bz9] at h3
   rw [h3, List.drop_length, putF, if_pos rfl, List.append_nil] at hi2
   refine cw_skip ?_
   refine ex_then ?_
   refine cw_seq ?_
   refine cw_region ?_
   refine sq_r (ry_move rfl) ?_
   refine sq_r (ry_assign rfl) ?_
   refine sq_nil ?_
   refine ex_then ?_
   refine cw_ret ?_
   refine ex_ret (.inl rfl) (res_1 rfl (rv_tmp rfl)) (fun w1 hw => ?_)
   exact ⟨o, rfl, trivial, by rw [hi2]; exact Keep.mem hw⟩
instance r3put_i {w0 : World} {L : List Ent} {t : Sv} {ts : List Rt} {r : Rt} [ht : HdE w0 L rcells 19 t ts] : FnC Try.prog 54 w0 L [t.val, .agg (rcells r)] (Sv) (fun zz => zz.val) (fun zz => own rcells 19 zz (putF r ts false) :: L) (fun zz => True) (ts.length ≤ 100000) := ⟨fun hp w hw => (r3put_c w t ts r (ht.h w hw) hp).mono fun e w' ⟨x, h1, h2, h3⟩ => ⟨x, h1, h2, hw.call h3⟩⟩
set_option maxRecDepth 20000 in
theorem r3apply_c (w : World) (t : Sv) (ts : List Rt) (l : Sv) (ls : List Ch) (ht : Lies rcells 19 (hp w) t ts) (hl : Lies chcells 20 (hp w) l ls) (hpre : tright ts = true) : Calls Try.prog 24 #[t.val, l.val] w fun e w' => ∃ zz : Sv × Bool, e = .returned (.tuple #[zz.1.val, .int .i64 (appE ts ls)]) ∧ (zz.2 = true → zz.1 = t ∧ appL ts ls = ts) ∧ Mem w [selE zz.2 (own rcells 19 zz.1 (appL ts ls))] w' := by
 have ght : Gv w t rcells 19 ts := ⟨ht⟩
 have ghl : Gv w l chcells 20 ls := ⟨hl⟩
 have hlb := hl.bd
 have hr := hpre
 refine calls_of (args := [_, _]) Try.func24 rfl Try.ntmps24 rfl ?_
 change Cw _ _ _ _ _ [(0, t.val), (1, l.val)] []
 refine cw_seq ?_
 refine cw_region ?_
 refine sq_r (ry_assign rfl) ?_
 refine sq_r (ry_assign rfl) ?_
 refine sq_nil ?_
 refine ex_then ?_
 refine cw_seq ?_
 refine cw_region ?_
 refine sq_r (ry_move rfl) ?_
 refine sq_r (ry_assign rfl) ?_
 refine sq_nil ?_
 refine ex_then ?_
 refine cw_seq ?_
 refine cw_seq ?_
 refine cw_region ?_
 refine sq_r (ry_assign rfl) ?_
 refine sq_nil ?_
 refine ex_then ?_
 refine cw_block ?_
 refine cw_loop (X := Nat × Sv × Bool × List Rt) (fun zz => [(7, .int .i64 (zz.1 : Nat)), (6, zz.2.1.val), (0, t.val), (1, l.val)]) (fun zz => [selE zz.2.2.1 (own rcells 19 zz.2.1 zz.2.2.2)]) (fun zz => zz.1 ≤ ls.length ∧ appF ts ls = appF zz.2.2.2 (ls.drop zz.1) ∧ tright zz.2.2.2 = true ∧ (zz.2.2.1 = true → zz.2.1 = t ∧ zz.2.2.2 = ts)) (fun zz => ls.length - zz.1) (0, t, true, ts) ⟨Nat.zero_le _, rfl, hr, fun _ => ⟨rfl, rfl⟩⟩ (Sub.cons rfl (Sub.cons rfl (Sub.cons rfl (Sub.cons rfl (Sub.nil _))))) (fun w hw => Mem.selT hw) ?_
 rintro ⟨i, o, g, q⟩ ⟨hi1, hi2, hi3, hi4⟩
 dsimp only
 simp only at hi1 hi2 hi3 hi4
 have hql := tr_len hi3
 have sg : SelG g o q t ts := ⟨hi4⟩
 refine cw_seq ?_
 refine cw_seq ?_
 refine cw_region ?_
 refine sq_r (ry_move rfl) ?_
 refine sq_r (ry_move rfl) ?_
 refine sq_r (ry_lenH rfl) ?_
 refine sq_r (ry_int rfl rfl rfl) ?_
 refine sq_nil ?_
 refine ex_then ?_
 refine cw_cond rfl (fun h0 => ?_) (fun h0 => ?_)
 ·
  try simp only [bz0, bz1, bz2, bz3, bz4, bz5, bz6, bz7, bz8, bz9] at h0
  obtain ⟨c, hc⟩ := get_some (xs := ls) (i := i) (by omega)
  refine cw_skip ?_
  refine ex_then ?_
  refine cw_seq ?_
  refine cw_block ?_
  refine cw_seq ?_
  refine cw_region ?_
  refine sq_r (ry_move rfl) ?_
  refine sq_r (ry_move rfl) ?_
  refine sq_r (ry_move rfl) ?_
  refine sq_r (ry_idxH rfl rfl i rfl (by omega)) ?_
  refine sq_r (ry_field rfl rfl) ?_
  refine sq_r (ry_field rfl rfl) ?_
  refine sq_r (ry_elempH (j := 0) rfl i hc rfl (by decide)) ?_
  refine sq_y (yl_callC rfl trivial) ?_
  refine sq_r (ry_move rfl) ?_
  refine sq_r (ry_extract (v := .int .u16 ((rgetH q c.r.p).toNat : Nat)) rfl rfl) ?_
  refine sq_r (ry_extract (v := .int .i64 (rgetE q c.r.p)) rfl rfl) ?_
  refine sq_r (ry_assign rfl) ?_
  refine sq_r (ry_assign rfl) ?_
  refine sq_nil ?_
  refine ex_then ?_
  refine cw_seq ?_
  refine cw_seq ?_
  refine cw_region ?_
  refine sq_r (ry_move rfl) ?_
  refine sq_r (ry_int rfl rfl rfl) ?_
  refine sq_r (ry_move rfl) ?_
  refine sq_gf rfl rfl rfl (fun hg => (Ry.yl (ry_move rfl))) ?_
  refine sq_gf rfl rfl rfl (fun hg => (Ry.yl (ry_int (ev_c hg rfl) rfl rfl))) ?_
  refine sq_gf rfl rfl rfl (fun hg => (Ry.yl (ry_move (ev_c hg rfl)))) ?_
  refine sq_nt rfl rfl rfl (fun hg => (Ry.yl (ry_move rfl))) ?_
  refine sq_nt rfl rfl rfl (fun hg => (Ry.yl (ry_move rfl))) ?_
  refine sq_nt rfl rfl rfl (fun hg => (Ry.yl (ry_idxH (ev_c hg rfl) (ev_c hg rfl) i rfl (by simp only [bz0, bz1, bz2, bz3, bz4, bz5, bz6, bz7, bz8, bz9] at hg; omega)))) ?_
  refine sq_nt rfl rfl rfl (fun hg => (Ry.yl (ry_field (ev_c hg rfl) rfl))) ?_
  refine sq_nt rfl rfl rfl (fun hg => (Ry.yl (ry_elemcH (j := 19) (ev_c hg rfl) i hc rfl (by decide)))) ?_
  refine sq_gf rfl rfl rfl (fun hg => (Ry.yl (ry_and (ev_c hg rfl) (ev_cc hg rfl) rfl))) ?_
  refine sq_r (ry_or rfl rfl rfl) ?_
  refine sq_nil ?_
  refine ex_then ?_
  refine cw_cond rfl (fun h1 => ?_) (fun h1 => ?_)
  ·
   try simp only [bz0, bz1, bz2, bz3, bz4, bz5, bz6, bz7, bz8, bz9] at h1
   have hce : chgE q c = rgetE q c.r.p := by rw [chgE_get hi3]; rw [if_pos h1]
   obtain ⟨hE, hL⟩ := app_end hr hi2 hc (by rw [hce]; rcases h1 with h | h <;> omega)
   refine cw_seq ?_
   refine cw_region ?_
   refine sq_r (ry_move rfl) ?_
   refine sq_r (ry_move rfl) ?_
   refine sq_r (ry_assign rfl) ?_
   refine sq_r (ry_assign rfl) ?_
   refine sq_nil ?_
   refine ex_then ?_
   refine cw_ret ?_
   refine ex_pass_ret ?_
   refine ex_block_ret ?_
   refine ex_pass_ret ?_
   refine ex_pass_ret ?_
   refine ex_block_ret ?_
   refine ex_pass_ret ?_
   refine ex_ret (.inl rfl) (res_2 rfl (rv_tmp rfl) (rv_tmp rfl)) (fun w1 hw => ?_)
   exact ⟨(t, true), by rw [hE, hce], fun _ => ⟨rfl, hL⟩, Mem.selT (Keep.mem hw)⟩
  ·
   try simp only [bz0, bz1, bz2, bz3, bz4, bz5, bz6, bz7, bz8, bz9] at h1
   have h1x : ¬ (rgetE q c.r.p = 1 ∨ (rgetE q c.r.p = 6 ∧ c.gone = true)) := by
    rintro (h | ⟨h, h'⟩)
    ·
     exact h1.1 h
    ·
     rcases h1.2 with h2 | h2
     ·
      exact h2 h
     ·
      rw [h2] at h'; cases h'
   refine cw_skip ?_
   refine ex_then ?_
   refine cw_seq ?_
   refine cw_seq ?_
   refine cw_region ?_
   refine sq_r (ry_move rfl) ?_
   refine sq_r (ry_int rfl rfl rfl) ?_
   refine sq_r (ry_move rfl) ?_
   refine sq_gt rfl rfl rfl (fun hg => (Ry.yl (ry_move rfl))) ?_
   refine sq_gt rfl rfl rfl (fun hg => (Ry.yl (ry_lenH (ev_c hg rfl)))) ?_
   refine sq_gt rfl rfl rfl (fun hg => (Ry.yl (ry_int (ev_c hg rfl) rfl rfl))) ?_
   refine sq_r (ry_and rfl rfl rfl) ?_
   refine sq_nil ?_
   refine ex_then ?_
   refine cw_cond rfl (fun h2 => ?_) (fun h2 => ?_)
   ·
    try simp only [bz0, bz1, bz2, bz3, bz4, bz5, bz6, bz7, bz8, bz9] at h2
    have hce : chgE q c = 5 := by rw [chgE_get hi3]; rw [if_neg h1x, if_pos ⟨h2.1, by omega⟩]
    obtain ⟨hE, hL⟩ := app_end hr hi2 hc (by rw [hce]; decide)
    refine cw_seq ?_
    refine cw_region ?_
    refine sq_r (ry_move rfl) ?_
    refine sq_r (ry_assign rfl) ?_
    refine sq_r (ry_assign rfl) ?_
    refine sq_nil ?_
    refine ex_then ?_
    refine cw_ret ?_
    refine ex_pass_ret ?_
    refine ex_block_ret ?_
    refine ex_pass_ret ?_
    refine ex_pass_ret ?_
    refine ex_block_ret ?_
    refine ex_pass_ret ?_
    refine ex_ret (.inl rfl) (res_2 rfl (rv_tmp rfl) (rv_tmp rfl)) (fun w1 hw => ?_)
    exact ⟨(t, true), by rw [hE, hce], fun _ => ⟨rfl, hL⟩, Mem.selT (Keep.mem hw)⟩
   ·
    try simp only [bz0, bz1, bz2, bz3, bz4, bz5, bz6, bz7, bz8, bz9] at h2
    have hce : chgE q c = 0 := by rw [chgE_get hi3, if_neg h1x, if_neg (by intro h; rcases h2 with h2 | h2 <;> omega)]
    have hst : appF ts ls = appF (chgL q c) (ls.drop (i + 1)) := by rw [hi2, appF_step hc, if_pos hce]
    refine cw_skip ?_
    refine ex_then ?_
    refine cw_seq ?_
    refine cw_seq ?_
    refine cw_region ?_
    refine sq_r (ry_move rfl) ?_
    refine sq_r (ry_move rfl) ?_
    refine sq_r (ry_idxH rfl rfl i rfl (by omega)) ?_
    refine sq_r (ry_field rfl rfl) ?_
    refine sq_r (ry_elemcH (j := 19) rfl i hc rfl (by decide)) ?_
    refine sq_r (ry_not rfl) ?_
    refine sq_nil ?_
    refine ex_then ?_
    refine cw_cond rfl (fun h3 => ?_) (fun h3 => ?_)
    ·
     try simp only [bz0, bz1, bz2, bz3, bz4, bz5, bz6, bz7, bz8, bz9] at h3
     have hcc : c = ⟨c.r, false⟩ := by rw [← h3]
     have hq : chgL q c = putF c.r q false := by rw [hcc]; exact chg_putF hi3 (by rw [← hcc]; exact hce)
     refine cw_seq ?_
     refine cw_region ?_
     refine sq_r (ry_move rfl) ?_
     refine sq_r (ry_move rfl) ?_
     refine sq_r (ry_move rfl) ?_
     refine sq_r (ry_idxH rfl rfl i rfl (by omega)) ?_
     refine sq_r (ry_field rfl rfl) ?_
     refine sq_r (ry_elempH (j := 0) rfl i hc rfl (by decide)) ?_
     refine sq_callC rfl (by omega) fun x65 hp65 => ?_
     refine sq_r (ry_assign rfl) ?_
     refine sq_nil ?_
     refine ex_then ?_
     refine cw_exit ?_
     refine ex_pass_exit ?_
     refine ex_block_hit ?_
     refine ex_then ?_
     refine cw_region ?_
     refine sq_r (ry_move rfl) ?_
     refine sq_r (ry_add rfl rfl (by omega)) ?_
     refine sq_r (ry_assign rfl) ?_
     refine sq_nil ?_
     exact ex_again (x := (i, o, g, q)) (i + 1, x65, false, chgL q c) ⟨by first | omega | (simp only []; omega), hst, chg_right hi3 c, fun h => by cases h⟩ (by simp only; omega) (Sub.cons rfl (Sub.cons rfl (Sub.cons rfl (Sub.cons rfl (Sub.nil _))))) (fun w hw => by rw [hq]; exact Mem.selF (Keep.mem hw))
    ·
     try simp only [bz0, bz1, bz2, bz3, bz4, bz5, bz6, bz7, bz8, bz9] at h3
     have hcc : c = ⟨c.r, true⟩ := by rw [← h3]
     have hq : chgL q c = q.filter (fun x => decide (x.p ≠ c.r.p)) := by rw [hcc]; exact chg_goneF hi3 (by rw [← hcc]; exact hce)
     refine cw_skip ?_
     refine ex_then ?_
     refine cw_seq ?_
     refine cw_region ?_
     refine sq_r (ry_assign rfl) ?_
     refine sq_nil ?_
     refine ex_then ?_
     refine cw_seq ?_
     refine cw_seq ?_
     refine cw_region ?_
     refine sq_r (ry_assign rfl) ?_
     refine sq_nil ?_
     refine ex_then ?_
     refine cw_block ?_
     refine cw_loop (X := Nat × Sv × List Rt) (fun zz => [(11, .int .i64 (zz.1 : Nat)), (10, zz.2.1.val), (0, t.val), (1, l.val), (6, o.val), (7, .int .i64 (i : Nat))]) (fun zz => [own rcells 19 zz.2.1 zz.2.2, selE g (own rcells 19 o q)]) (fun zz => zz.1 ≤ q.length ∧ zz.2.2 = (q.take zz.1).filter (fun x => decide (x.p ≠ c.r.p))) (fun zz => q.length - zz.1) (0, Sv.none, []) ⟨Nat.zero_le _, rfl⟩ (Sub.cons rfl (Sub.cons rfl (Sub.cons rfl (Sub.cons rfl (Sub.cons rfl (Sub.cons rfl (Sub.nil _))))))) (fun w hw => Mem.nilOwn rcells 19 (Keep.mem hw)) ?_
     rintro ⟨k, v, z⟩ ⟨hj1, hj2⟩
     dsimp only
     simp only at hj1 hj2
     have hzl : z.length ≤ q.length := by rw [hj2]; exact Nat.le_trans (List.length_filter_le _ _) (by rw [List.length_take]; omega)
     refine cw_seq ?_
     refine cw_seq ?_
     refine cw_region ?_
     refine sq_r (ry_move rfl) ?_
     refine sq_r (ry_move rfl) ?_
     refine sq_r (ry_lenH rfl) ?_
     refine sq_r (ry_int rfl rfl rfl) ?_
     refine sq_nil ?_
     refine ex_then ?_
     refine cw_cond rfl (fun h4 => ?_) (fun h4 => ?_)
     ·
      try simp only [bz0, bz1, bz2, bz3, bz4, bz5, bz6, bz7, bz8, bz9] at h4
      obtain ⟨e, he⟩ := get_some (xs := q) (i := k) (by omega)
      refine cw_skip ?_
      refine ex_then ?_
      refine cw_seq ?_
      refine cw_block ?_
      refine cw_seq ?_
      refine cw_quiet (by kernel_rfl) (by kernel_rfl) ?_
      refine qt_r (ry_move rfl) ?_
      refine qt_r (ry_move rfl) ?_
      refine qt_r (ry_idxH rfl rfl k rfl (by omega)) ?_
      refine qt_r (ry_field rfl rfl) ?_
      refine qt_r (ry_elempH (j := 0) rfl k he rfl (by decide)) ?_
      refine qt_r (ry_move rfl) ?_
      refine qt_r (ry_move rfl) ?_
      refine qt_r (ry_idxH rfl rfl i rfl (by omega)) ?_
      refine qt_r (ry_field rfl rfl) ?_
      refine qt_r (ry_field rfl rfl) ?_
      refine qt_r (ry_elempH (j := 0) rfl i hc rfl (by decide)) ?_
      refine qt_r (ry_ne rfl rfl) ?_
      refine qt_nil ?_
      refine ex_then ?_
      refine cw_cond rfl (fun h5 => ?_) (fun h5 => ?_)
      ·
       try simp only [bz0, bz1, bz2, bz3, bz4, bz5, bz6, bz7, bz8, bz9] at h5
       refine cw_region ?_
       refine sq_r (ry_move rfl) ?_
       refine sq_r (ry_move rfl) ?_
       refine sq_r (ry_move rfl) ?_
       refine sq_r (ry_idxH rfl rfl k rfl (by omega)) ?_
       refine sq_r (ry_elemH rfl k he rfl) ?_
       refine sq_buildSlice (enc := rcells) (vals := [_]) [e] rfl rfl rfl (by decide) (by decide) fun b89 => ?_
       refine sq_append (s := v) (ys := [e]) rfl rfl (by decide) (fun w hw => src_rows (s := ⟨false, b89, 0, 1, 1, none⟩) Try.underlying22 (by decide) ((inferInstance : Hd _ _ ⟨false, b89, 0, 1, 1, none⟩ rcells 19 [e]).h w hw)) (by simp only [List.length_cons, List.length_nil]; omega) (by simp only [List.length_cons, List.length_nil]; omega) fun s90 hs90 hl90 => ?_
       refine sq_r (ry_assign rfl) ?_
       refine sq_nil ?_
       refine ex_block ?_
       refine ex_then ?_
       refine cw_region ?_
       refine sq_r (ry_move rfl) ?_
       refine sq_r (ry_add rfl rfl (by omega)) ?_
       refine sq_r (ry_assign rfl) ?_
       refine sq_nil ?_
       exact ex_again (x := (k, v, z)) (k + 1, s90, z ++ [e]) ⟨by first | omega | (simp only []; omega), by rw [filter_take1 he, if_pos (by simpa using h5), ← hj2]⟩ (by simp only; omega) (Sub.cons rfl (Sub.cons rfl (Sub.cons rfl (Sub.cons rfl (Sub.cons rfl (Sub.cons rfl (Sub.nil _))))))) (fun w hw => Keep.mem hw)
      ·
       try simp only [bz0, bz1, bz2, bz3, bz4, bz5, bz6, bz7, bz8, bz9] at h5
       refine cw_skip ?_
       refine ex_block ?_
       refine ex_then ?_
       refine cw_region ?_
       refine sq_r (ry_move rfl) ?_
       refine sq_r (ry_add rfl rfl (by omega)) ?_
       refine sq_r (ry_assign rfl) ?_
       refine sq_nil ?_
       exact ex_again (x := (k, v, z)) (k + 1, v, z) ⟨by first | omega | (simp only []; omega), by rw [filter_take1 he, if_neg (by simpa using h5), List.append_nil, ← hj2]⟩ (by simp only; omega) (Sub.cons rfl (Sub.cons rfl (Sub.cons rfl (Sub.cons rfl (Sub.cons rfl (Sub.cons rfl (Sub.nil _))))))) (fun w hw => Keep.mem hw)
     ·
      try simp only [bz0, bz1, bz2, bz3, bz4, bz5, bz6, bz7, bz8, bz9] at h4
      obtain rfl : k = q.length := by omega
      rw [List.take_length] at hj2
      refine cw_exit ?_
      refine ex_pass_exit ?_
      refine ex_pass_exit ?_
      refine ex_block_hit ?_
      refine ex_then ?_
      refine cw_region ?_
      refine sq_r (ry_move rfl) ?_
      refine sq_r (ry_assign rfl) ?_
      refine sq_nil ?_
      refine ex_block ?_
      refine ex_then ?_
      refine cw_region ?_
      refine sq_r (ry_move rfl) ?_
      refine sq_r (ry_add rfl rfl (by omega)) ?_
      refine sq_r (ry_assign rfl) ?_
      refine sq_nil ?_
      exact ex_again (x := (i, o, g, q)) (i + 1, v, false, chgL q c) ⟨by first | omega | (simp only []; omega), hst, chg_right hi3 c, fun h => by cases h⟩ (by simp only; omega) (Sub.cons rfl (Sub.cons rfl (Sub.cons rfl (Sub.cons rfl (Sub.nil _))))) (fun w hw => by rw [hq, ← hj2]; exact Mem.selF (Keep.mem hw))
 ·
  try simp only [bz0, bz1, bz2, bz3, bz4, bz5, bz6, bz7, bz8, bz9] at h0
  obtain rfl : i = ls.length := by omega
  obtain ⟨hE, hL⟩ := app_done hr hi2
  refine cw_exit ?_
  refine ex_pass_exit ?_
  refine ex_pass_exit ?_
  refine ex_block_hit ?_
  refine ex_then ?_
  refine cw_seq ?_
  refine cw_region ?_
  refine sq_r (ry_move rfl) ?_
  refine sq_r (ry_assign rfl) ?_
  refine sq_r (ry_assign rfl) ?_
  refine sq_nil ?_
  refine ex_then ?_
  refine cw_ret ?_
  refine ex_ret (.inl rfl) (res_2 rfl (rv_tmp rfl) (rv_tmp rfl)) (fun w1 hw => ?_)
  exact ⟨(o, g), by rw [hE], by rw [hL]; exact hi4, by rw [hL]; exact Keep.mem hw⟩
instance r3apply_i {w0 : World} {L : List Ent} {t : Sv} {ts : List Rt} {l : Sv} {ls : List Ch} [ht : HdE w0 L rcells 19 t ts] [hl : HdE w0 L chcells 20 l ls] : FnC Try.prog 24 w0 L [t.val, l.val] (Sv × Bool) (fun zz => .tuple #[zz.1.val, .int .i64 (appE ts ls)]) (fun zz => selE zz.2 (own rcells 19 zz.1 (appL ts ls)) :: L) (fun zz => zz.2 = true → zz.1 = t ∧ appL ts ls = ts) (tright ts = true) := ⟨fun hp w hw => (r3apply_c w t ts l ls (ht.h w hw) (hl.h w hw) hp).mono fun e w' ⟨x, h1, h2, h3⟩ => ⟨x, h1, h2, hw.call h3⟩⟩
set_option maxRecDepth 20000 in
theorem same18_c (w : World) (u : Sv) (us : List Ch) (v : Sv) (vs : List Ch) (hu : Lies chcells 20 (hp w) u us) (hv : Lies chcells 20 (hp w) v vs) : Calls Try.prog 36 #[u.val, v.val] w fun e w' => e = .returned (.bool (decide (us = vs))) ∧ Mem w [] w' := by
 have ghu : Gv w u chcells 20 us := ⟨hu⟩
 have ghv : Gv w v chcells 20 vs := ⟨hv⟩
 have hub := hu.bd
 refine calls_of (args := [_, _]) Try.func36 rfl Try.ntmps36 rfl ?_
 change Cw _ _ _ _ _ [(0, u.val), (1, v.val)] []
 refine cw_seq ?_
 refine cw_region ?_
 refine sq_r (ry_assign rfl) ?_
 refine sq_nil ?_
 refine ex_then ?_
 refine cw_seq ?_
 refine cw_seq ?_
 refine cw_region ?_
 refine sq_r (ry_move rfl) ?_
 refine sq_r (ry_lenH rfl) ?_
 refine sq_r (ry_move rfl) ?_
 refine sq_r (ry_lenH rfl) ?_
 refine sq_r (ry_int rfl rfl rfl) ?_
 refine sq_nil ?_
 refine ex_then ?_
 refine cw_cond rfl (fun h0 => ?_) (fun h0 => ?_)
 ·
  try simp only [bz0, bz1, bz2, bz3, bz4, bz5, bz6, bz7, bz8, bz9] at h0
  have hno : ¬ us = vs := fun e => h0 (by rw [e])
  refine cw_seq ?_
  refine cw_region ?_
  refine sq_r (ry_assign rfl) ?_
  refine sq_nil ?_
  refine ex_then ?_
  refine cw_ret ?_
  refine ex_pass_ret ?_
  refine ex_ret (.inl rfl) (res_1 rfl (rv_tmp rfl)) (fun w1 hw => ?_)
  exact ⟨congrArg (fun b => Ending.returned (Value.bool b)) ((decide_eq_false hno).symm), Keep.mem hw⟩
 ·
  try simp only [bz0, bz1, bz2, bz3, bz4, bz5, bz6, bz7, bz8, bz9] at h0
  refine cw_skip ?_
  refine ex_then ?_
  refine cw_seq ?_
  refine cw_seq ?_
  refine cw_region ?_
  refine sq_r (ry_assign rfl) ?_
  refine sq_nil ?_
  refine ex_then ?_
  refine cw_block ?_
  refine cw_loop (X := Nat) (fun zz => [(5, .int .i64 (zz : Nat)), (0, u.val), (1, v.val)]) (fun zz => []) (fun zz => zz ≤ us.length ∧ ∀ j, j < zz → us[j]? = vs[j]?) (fun zz => us.length - zz) 0 ⟨Nat.zero_le _, fun j h => by first | omega | (simp only []; omega)⟩ (Sub.cons rfl (Sub.cons rfl (Sub.cons rfl (Sub.nil _)))) (fun w hw => Keep.mem hw) ?_
  rintro i ⟨hi1, hi2⟩
  refine cw_seq ?_
  refine cw_seq ?_
  refine cw_region ?_
  refine sq_r (ry_move rfl) ?_
  refine sq_r (ry_move rfl) ?_
  refine sq_r (ry_lenH rfl) ?_
  refine sq_r (ry_int rfl rfl rfl) ?_
  refine sq_nil ?_
  refine ex_then ?_
  refine cw_cond rfl (fun h1 => ?_) (fun h1 => ?_)
  ·
   try simp only [bz0, bz1, bz2, bz3, bz4, bz5, bz6, bz7, bz8, bz9] at h1
   obtain ⟨a, ha⟩ := get_some (xs := us) (i := i) (by omega)
   obtain ⟨b, hb⟩ := get_some (xs := vs) (i := i) (by omega)
   refine cw_skip ?_
   refine ex_then ?_
   refine cw_seq ?_
   refine cw_block ?_
   refine cw_seq ?_
   refine cw_quiet (by kernel_rfl) (by kernel_rfl) ?_
   refine qt_r (ry_move rfl) ?_
   refine qt_r (ry_move rfl) ?_
   refine qt_r (ry_idxH rfl rfl i rfl (by omega)) ?_
   refine qt_r (ry_elemH rfl i ha rfl) ?_
   refine qt_r (ry_move rfl) ?_
   refine qt_r (ry_move rfl) ?_
   refine qt_r (ry_idxH rfl rfl i rfl (by omega)) ?_
   refine qt_r (ry_elemH rfl i hb rfl) ?_
   refine qt_r (ry_ne rfl rfl) ?_
   refine qt_nil ?_
   refine ex_then ?_
   refine cw_cond rfl (fun h2 => ?_) (fun h2 => ?_)
   ·
    try simp only [bz0, bz1, bz2, bz3, bz4, bz5, bz6, bz7, bz8, bz9] at h2
    have hno : ¬ us = vs := list_no ha hb h2
    refine cw_seq ?_
    refine cw_region ?_
    refine sq_r (ry_assign rfl) ?_
    refine sq_nil ?_
    refine ex_then ?_
    refine cw_ret ?_
    refine ex_block_ret ?_
    refine ex_pass_ret ?_
    refine ex_pass_ret ?_
    refine ex_block_ret ?_
    refine ex_pass_ret ?_
    refine ex_ret (.inl rfl) (res_1 rfl (rv_tmp rfl)) (fun w1 hw => ?_)
    exact ⟨congrArg (fun b => Ending.returned (Value.bool b)) ((decide_eq_false hno).symm), Keep.mem hw⟩
   ·
    try simp only [bz0, bz1, bz2, bz3, bz4, bz5, bz6, bz7, bz8, bz9] at h2
    refine cw_skip ?_
    refine ex_block ?_
    refine ex_then ?_
    refine cw_region ?_
    refine sq_r (ry_move rfl) ?_
    refine sq_r (ry_add rfl rfl (by omega)) ?_
    refine sq_r (ry_assign rfl) ?_
    refine sq_nil ?_
    exact ex_again (x := (i)) (i + 1) ⟨by first | omega | (simp only []; omega), fun j hj => if e : j = i then (by subst e; rw [ha, hb, h2]) else hi2 j (by first | omega | (simp only []; omega))⟩ (by first | omega | (simp only []; omega)) (Sub.cons rfl (Sub.cons rfl (Sub.cons rfl (Sub.nil _)))) (fun w hw => Keep.mem hw)
  ·
   try simp only [bz0, bz1, bz2, bz3, bz4, bz5, bz6, bz7, bz8, bz9] at h1
   have hyes : us = vs := list_all (by omega) (fun j hj => hi2 j (by omega))
   refine cw_exit ?_
   refine ex_pass_exit ?_
   refine ex_pass_exit ?_
   refine ex_block_hit ?_
   refine ex_then ?_
   refine cw_seq ?_
   refine cw_region ?_
   refine sq_r (ry_assign rfl) ?_
   refine sq_nil ?_
   refine ex_then ?_
   refine cw_ret ?_
   refine ex_ret (.inl rfl) (res_1 rfl (rv_tmp rfl)) (fun w1 hw => ?_)
   exact ⟨congrArg (fun b => Ending.returned (Value.bool b)) ((decide_eq_true hyes).symm), Keep.mem hw⟩
instance same18_i {w0 : World} {L : List Ent} {u : Sv} {us : List Ch} {v : Sv} {vs : List Ch} [hu : HdE w0 L chcells 20 u us] [hv : HdE w0 L chcells 20 v vs] : FnQ Try.prog 36 w0 L [u.val, v.val] (.bool (decide (us = vs))) (True) := ⟨fun hp w hw => same18_c w u us v vs (hu.h w hw) (hv.h w hw)⟩

end Go.Proofs.Ytldkgicmfbofiaa

/- Arguments with changes, opened. -/
namespace Go.Proofs.Ytldkgicmfbofiaa
open Go.Eng Go.Kb

instance (priority := high) deepBoolO : Deep Bool := Deep.flat tenc 1
instance op52 : OpenT Try.prog 52 Ch := ⟨by kernel_rfl, fun h hw => by
  obtain ⟨hl, x0, h0, -⟩ := open_field Try.underlying52 h hw (i := 0) (tf := 34) (off := 0) rfl Rt
  obtain ⟨-, x1, h1, -⟩ := open_field Try.underlying52 h hw (i := 1) (tf := 4) (off := 19) rfl Bool
  refine ⟨⟨x0, x1⟩, ?_, trivial⟩
  refine Eq.trans ?_ (cut2 (a := 19) (b := 1) (hl.trans (by kernel_rfl)))
  rw [show (Deep.cells (⟨x0, x1⟩ : Ch)).toList = (Deep.cells x0).toList ++ (Deep.cells x1).toList from by show (chcells _).toList = _; unfold chcells; rw [Array.toList_append]; rfl, h0, h1]
  rfl⟩
instance op27 : OpenT Try.prog 27 (Sl Ch) := open_sl Try.underlying27 (by kernel_rfl) (by decide) (by kernel_rfl)

end Go.Proofs.Ytldkgicmfbofiaa

