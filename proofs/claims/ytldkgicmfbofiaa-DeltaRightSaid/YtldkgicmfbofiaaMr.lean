/- Package delta: may, where a prefix leads, searching: walked. -/
import Derived.Test.YtldkgicmfbofiaaMs
import Derived.Test.YtldkgicmfbofiaaMv
import Derived.Test.YtldkgicmfbofiaaMz

set_option linter.unusedSimpArgs false
set_option linter.unusedVariables false
namespace Go.Proofs.Ytldkgicmfbofiaa
open Go.Eng Go.Kb

instance buildGoneD (r : Rt) : BuildT Try.prog 52 [(0, .agg (rcells r)), (1, .bool true)] (.agg (chcells ⟨r, true⟩)) := ⟨fun w => by kernel_rfl⟩
instance : Enc ldcells 2 := ⟨fun _ => rfl, fun x => by simp [ldcells, Value.oneCell']⟩
instance (x : Ld) : SizeIs (ldcells x) 2 := ⟨rfl, Enc.one x⟩
instance (x : Ld) : CellAt (ldcells x) 0 (.bool x.there) := ⟨rfl⟩
instance (x : Ld) : CellAt (ldcells x) 1 (.int .u16 x.hop.toNat) := ⟨rfl⟩
instance : ZeroT Try.prog 93 (.agg (ldcells ⟨false, 0⟩)) := ⟨by kernel_rfl⟩
instance : BuildT Try.prog 93 [] (.agg (ldcells ⟨false, 0⟩)) := ⟨fun w => by kernel_rfl⟩
instance (h : UInt16) : BuildT Try.prog 93 [(0, .bool true), (1, .int .u16 h.toNat)] (.agg (ldcells ⟨true, h⟩)) := ⟨fun w => by kernel_rfl⟩
theorem partLB (d : Nat) : PartT Try.prog (d + 1) 4 false [1] := ⟨⟨_, Try.underlying4, rfl⟩, by kernel_rfl, fun _ => rfl, eqF_bool Try.underlying4⟩
theorem partLU (d : Nat) : PartT Try.prog (d + 1) 29 false [0] := ⟨⟨_, Try.underlying29, rfl⟩, by kernel_rfl, fun _ => rfl, eqF_int Try.underlying29⟩
theorem stoodL : Try.prog.stoodInHeld 93 = false := by kernel_rfl
theorem partL (d : Nat) : PartT Try.prog (d + 1 + 1) 93 true ([1] ++ ([0] ++ [])) := ⟨⟨_, Try.underlying93, rfl⟩, by kernel_rfl, (fun h => by cases h),
 eqF_struct Try.underlying93 stoodL ⟨by decide, rfl, _, _, _, rfl, partLB _, by decide, rfl, _, _, _, rfl, partLU _, rfl⟩⟩
theorem guardL : Try.prog.eqGuardType Try.prog.depth 93 = false := by kernel_rfl
theorem ldcells_inj {a b : Ld} (h : ldcells a = ldcells b) : a = b := by
 obtain ⟨ab, ah⟩ := a
 obtain ⟨bb, bh⟩ := b
 have h1 := congrArg (·[0]?) h
 have h2 := congrArg (·[1]?) h
 simp [ldcells] at h1 h2
 have h3 : ah = bh := UInt16.toNat_inj.1 (by omega)
 rw [h1, h3]
instance (a b : Ld) : EqV Try.prog 93 (.agg (ldcells a)) (.agg (ldcells b)) (decide (a = b)) :=
 (partL 9998).eq.val rfl guardL rfl rfl (fun i k hk => by
  match i with
  | 0 =>
   have h0 : k = 1 := by simpa using hk.symm
   subst h0
   exact ⟨_, _, (inferInstance : CellAt (ldcells a) 0 _).h, (inferInstance : CellAt (ldcells b) 0 _).h, trivial⟩
  | 1 =>
   have h0 : k = 0 := by simpa using hk.symm
   subst h0
   exact ⟨_, _, (inferInstance : CellAt (ldcells a) 1 _).h, (inferInstance : CellAt (ldcells b) 1 _).h, rfl⟩
  | i + 2 => simp at hk) (by rw [decide_eq_true_iff]; exact ⟨ldcells_inj, fun h => by rw [h]⟩)
set_option maxRecDepth 20000 in
theorem dmay_c (w : World) (l : Sv) (ls : List Ch) (hl : Lies chcells 20 (hp w) l ls) : Calls Try.prog 64 #[l.val] w fun e w' => e = .returned (.bool (mayB ls)) ∧ Mem w [] w' := by
 have ghl : Gv w l chcells 20 ls := ⟨hl⟩
 have hlb := hl.bd
 refine calls_of (args := [_]) Try.func64 rfl Try.ntmps64 rfl ?_
 change Cw _ _ _ _ _ [(0, l.val)] []
 refine cw_seq ?_
 refine cw_region ?_
 refine sq_r (ry_assign rfl) ?_
 refine sq_nil ?_
 refine ex_then ?_
 refine cw_seq ?_
 refine cw_seq ?_
 refine cw_region ?_
 refine sq_r (ry_move rfl) ?_
 refine sq_r (ry_lenH rfl) ?_
 refine sq_r (ry_move rfl) ?_
 refine sq_nil ?_
 refine ex_then ?_
 refine cw_block ?_
 refine cw_loop (X := Nat) (fun zz => [(7, .int .i64 (zz : Nat)), (5, l.val), (6, .int .i64 (ls.length : Nat))]) (fun zz => []) (fun zz => zz ≤ ls.length ∧ ∀ c ∈ ls.take zz, pmay c.r.p = true) (fun zz => ls.length - zz) 0 ⟨Nat.zero_le _, by simp⟩ (Sub.cons rfl (Sub.cons rfl (Sub.cons rfl (Sub.nil _)))) (fun w hw => Keep.mem hw) ?_
 rintro i ⟨hi1, hi2⟩
 refine cw_seq ?_
 refine cw_region ?_
 refine sq_r (ry_int rfl rfl rfl) ?_
 refine sq_nil ?_
 refine ex_then ?_
 refine cw_seq ?_
 refine cw_cond rfl (fun h0 => ?_) (fun h0 => ?_)
 ·
  try simp only [bz0, bz1, bz2, bz3, bz4, bz5, bz6, bz7, bz8, bz9] at h0
  refine cw_skip ?_
  refine ex_then ?_
  refine cw_seq ?_
  refine cw_block ?_
  refine cw_seq ?_
  refine cw_region ?_
  obtain ⟨c, hc⟩ := get_some (xs := ls) (i := i) (by omega)
  refine sq_r (ry_idxH rfl rfl i rfl (by omega)) ?_
  refine sq_r (ry_elemH rfl i hc rfl) ?_
  refine sq_allocA fun b4 => ?_
  refine sq_storeW rfl rfl ?_
  refine sq_nil ?_
  refine ex_then ?_
  refine cw_seq ?_
  refine cw_region ?_
  refine sq_r (ry_field (o' := 0) rfl rfl) ?_
  refine sq_r (ry_field (o' := 0) rfl rfl) ?_
  refine sq_r (ry_part rfl) ?_
  refine sq_y (yl_callC rfl trivial) ?_
  refine sq_r (ry_not rfl) ?_
  refine sq_nil ?_
  refine ex_then ?_
  refine cw_cond rfl (fun h1 => ?_) (fun h1 => ?_)
  ·
   try simp only [bz0, bz1, bz2, bz3, bz4, bz5, bz6, bz7, bz8, bz9] at h1
   refine cw_seq ?_
   refine cw_region ?_
   refine sq_r (ry_assign rfl) ?_
   refine sq_nil ?_
   refine ex_then ?_
   refine cw_ret ?_
   refine ex_block_ret ?_
   refine ex_pass_ret ?_
   refine ex_pass_ret ?_
   refine ex_block_ret ?_
   refine ex_pass_ret ?_
   refine ex_ret (.inl rfl) (res_1 rfl (rv_tmp rfl)) (fun w1 hw => ?_)
   exact ⟨congrArg (fun b => Ending.returned (Value.bool b)) ((mayB_no hc (by simpa using h1)).symm), Keep.mem hw⟩
  ·
   try simp only [bz0, bz1, bz2, bz3, bz4, bz5, bz6, bz7, bz8, bz9] at h1
   refine cw_skip ?_
   refine ex_block ?_
   refine ex_then ?_
   refine cw_region ?_
   refine sq_r (ry_add rfl rfl (by omega)) ?_
   refine sq_r (ry_move rfl) ?_
   refine sq_nil ?_
   exact ex_again (x := (i)) (i + 1) ⟨by first | omega | (simp only []; omega), take_succ_all hi2 hc (by simpa using h1)⟩ (by first | omega | (simp only []; omega)) (Sub.cons rfl (Sub.cons rfl (Sub.cons rfl (Sub.nil _)))) (fun w hw => Keep.mem hw)
 ·
  try simp only [bz0, bz1, bz2, bz3, bz4, bz5, bz6, bz7, bz8, bz9] at h0
  obtain rfl : i = ls.length := by omega
  refine cw_exit ?_
  refine ex_pass_exit ?_
  refine ex_pass_exit ?_
  refine ex_block_hit ?_
  refine ex_then ?_
  refine cw_seq ?_
  refine cw_region ?_
  refine sq_r (ry_assign rfl) ?_
  refine sq_nil ?_
  refine ex_then ?_
  refine cw_ret ?_
  refine ex_ret (.inl rfl) (res_1 rfl (rv_tmp rfl)) (fun w1 hw => ?_)
  exact ⟨congrArg (fun b => Ending.returned (Value.bool b)) ((mayB_yes hi2).symm), Keep.mem hw⟩
instance dmay_i {w0 : World} {L : List Ent} {l : Sv} {ls : List Ch} [hl : HdE w0 L chcells 20 l ls] : FnQ Try.prog 64 w0 L [l.val] (.bool (mayB ls)) (True) := ⟨fun hp w hw => dmay_c w l ls (hl.h w hw)⟩
set_option maxRecDepth 20000 in
theorem r18may_c (w : World) (l : Sv) (ls : List Ch) (hl : Lies chcells 20 (hp w) l ls) : Calls Try.prog 38 #[l.val] w fun e w' => e = .returned (.bool (mayB ls)) ∧ Mem w [] w' := by
 have ghl : Gv w l chcells 20 ls := ⟨hl⟩
 have hlb := hl.bd
 refine calls_of (args := [_]) Try.func38 rfl Try.ntmps38 rfl ?_
 change Cw _ _ _ _ _ [(0, l.val)] []
 refine cw_seq ?_
 refine cw_region ?_
 refine sq_r (ry_assign rfl) ?_
 refine sq_nil ?_
 refine ex_then ?_
 refine cw_seq ?_
 refine cw_seq ?_
 refine cw_region ?_
 refine sq_r (ry_assign rfl) ?_
 refine sq_nil ?_
 refine ex_then ?_
 refine cw_block ?_
 refine cw_loop (X := Nat) (fun zz => [(3, .int .i64 (zz : Nat)), (0, l.val)]) (fun zz => []) (fun zz => zz ≤ ls.length ∧ ∀ c ∈ ls.take zz, pmay c.r.p = true) (fun zz => ls.length - zz) 0 ⟨Nat.zero_le _, by simp⟩ (Sub.cons rfl (Sub.cons rfl (Sub.nil _))) (fun w hw => Keep.mem hw) ?_
 rintro i ⟨hi1, hi2⟩
 refine cw_seq ?_
 refine cw_seq ?_
 refine cw_region ?_
 refine sq_r (ry_move rfl) ?_
 refine sq_r (ry_move rfl) ?_
 refine sq_r (ry_lenH rfl) ?_
 refine sq_r (ry_int rfl rfl rfl) ?_
 refine sq_nil ?_
 refine ex_then ?_
 refine cw_cond rfl (fun h0 => ?_) (fun h0 => ?_)
 ·
  try simp only [bz0, bz1, bz2, bz3, bz4, bz5, bz6, bz7, bz8, bz9] at h0
  refine cw_skip ?_
  refine ex_then ?_
  refine cw_seq ?_
  refine cw_block ?_
  refine cw_seq ?_
  refine cw_region ?_
  refine sq_r (ry_move rfl) ?_
  refine sq_r (ry_move rfl) ?_
  obtain ⟨c, hc⟩ := get_some (xs := ls) (i := i) (by omega)
  refine sq_r (ry_idxH rfl rfl i rfl (by omega)) ?_
  refine sq_r (ry_field rfl rfl) ?_
  refine sq_r (ry_field rfl rfl) ?_
  refine sq_r (ry_elempH (j := 0) rfl i hc rfl (by decide)) ?_
  refine sq_y (yl_callC rfl trivial) ?_
  refine sq_r (ry_not rfl) ?_
  refine sq_nil ?_
  refine ex_then ?_
  refine cw_cond rfl (fun h1 => ?_) (fun h1 => ?_)
  ·
   try simp only [bz0, bz1, bz2, bz3, bz4, bz5, bz6, bz7, bz8, bz9] at h1
   refine cw_seq ?_
   refine cw_region ?_
   refine sq_r (ry_assign rfl) ?_
   refine sq_nil ?_
   refine ex_then ?_
   refine cw_ret ?_
   refine ex_block_ret ?_
   refine ex_pass_ret ?_
   refine ex_pass_ret ?_
   refine ex_block_ret ?_
   refine ex_pass_ret ?_
   refine ex_ret (.inl rfl) (res_1 rfl (rv_tmp rfl)) (fun w1 hw => ?_)
   exact ⟨congrArg (fun b => Ending.returned (Value.bool b)) ((mayB_no hc (by simpa using h1)).symm), Keep.mem hw⟩
  ·
   try simp only [bz0, bz1, bz2, bz3, bz4, bz5, bz6, bz7, bz8, bz9] at h1
   refine cw_skip ?_
   refine ex_block ?_
   refine ex_then ?_
   refine cw_region ?_
   refine sq_r (ry_move rfl) ?_
   refine sq_r (ry_add rfl rfl (by omega)) ?_
   refine sq_r (ry_assign rfl) ?_
   refine sq_nil ?_
   exact ex_again (x := (i)) (i + 1) ⟨by first | omega | (simp only []; omega), take_succ_all hi2 hc (by simpa using h1)⟩ (by first | omega | (simp only []; omega)) (Sub.cons rfl (Sub.cons rfl (Sub.nil _))) (fun w hw => Keep.mem hw)
 ·
  try simp only [bz0, bz1, bz2, bz3, bz4, bz5, bz6, bz7, bz8, bz9] at h0
  obtain rfl : i = ls.length := by omega
  refine cw_exit ?_
  refine ex_pass_exit ?_
  refine ex_pass_exit ?_
  refine ex_block_hit ?_
  refine ex_then ?_
  refine cw_seq ?_
  refine cw_region ?_
  refine sq_r (ry_assign rfl) ?_
  refine sq_nil ?_
  refine ex_then ?_
  refine cw_ret ?_
  refine ex_ret (.inl rfl) (res_1 rfl (rv_tmp rfl)) (fun w1 hw => ?_)
  exact ⟨congrArg (fun b => Ending.returned (Value.bool b)) ((mayB_yes hi2).symm), Keep.mem hw⟩
instance r18may_i {w0 : World} {L : List Ent} {l : Sv} {ls : List Ch} [hl : HdE w0 L chcells 20 l ls] : FnQ Try.prog 38 w0 L [l.val] (.bool (mayB ls)) (True) := ⟨fun hp w hw => r18may_c w l ls (hl.h w hw)⟩
set_option maxRecDepth 20000 in
theorem cloneC_c (w : World) (s : Sv) (ss : List Ch) (hs : Lies chcells 20 (hp w) s ss) (hpre : ss.length ≤ 1000000) : Calls Try.prog 65 #[s.val] w fun e w' => ∃ zz : Sv, e = .returned (zz.val) ∧ (True) ∧ Mem w [own chcells 20 zz ss] w' := by
 have ghs : Gv w s chcells 20 ss := ⟨hs⟩
 refine calls_of (args := [_]) Try.func65 rfl Try.ntmps65 rfl ?_
 change Cw _ _ _ _ _ [(0, s.val)] []
 refine cw_seq ?_
 refine cw_region ?_
 refine sq_r (ry_assign rfl) ?_
 refine sq_nil ?_
 refine ex_then ?_
 refine cw_seq ?_
 refine cw_seq ?_
 refine cw_region ?_
 refine sq_r (ry_move rfl) ?_
 refine sq_r (ry_nilS Try.underlying27 rfl) ?_
 refine sq_nil ?_
 refine ex_then ?_
 refine cw_cond rfl (fun h0 => ?_) (fun h0 => ?_)
 ·
  try simp only [bz0, bz1, bz2, bz3, bz4, bz5, bz6, bz7, bz8, bz9] at h0
  have e0 : ss = [] := List.length_eq_zero_iff.1 (by have := hs.ok.nil h0; have := hs.len; omega)
  refine cw_seq ?_
  refine cw_region ?_
  refine sq_r (ry_assign rfl) ?_
  refine sq_nil ?_
  refine ex_then ?_
  refine cw_ret ?_
  refine ex_pass_ret ?_
  refine ex_ret (.inl rfl) (res_1 rfl (rv_tmp rfl)) (fun w1 hw => ?_)
  exact ⟨Sv.none, rfl, trivial, by rw [e0]; exact (Keep.mem hw : Mem w [] _).nilOwn chcells 20⟩
 ·
  try simp only [bz0, bz1, bz2, bz3, bz4, bz5, bz6, bz7, bz8, bz9] at h0
  refine cw_skip ?_
  refine ex_then ?_
  refine cw_seq ?_
  refine cw_region ?_
  refine sq_build0 chcells fun b5 => ?_
  refine sq_r (ry_move rfl) ?_
  refine sq_append (s := ⟨false, b5, 0, 0, 0, none⟩) (ys := ss) rfl rfl (by decide) (fun w hw => src_rows (s := s) Try.underlying27 (by decide) ((inferInstance : Hd _ _ s chcells 20 ss).h w hw)) (by simp only [List.length_append, List.length_cons, List.length_nil]; omega) (by simp only [List.length_append, List.length_cons, List.length_nil]; omega) fun s7 hs7 hl7 => ?_
  refine sq_r (ry_assign rfl) ?_
  refine sq_nil ?_
  refine ex_then ?_
  refine cw_ret ?_
  refine ex_ret (.inl rfl) (res_1 rfl (rv_tmp rfl)) (fun w1 hw => ?_)
  exact ⟨s7, rfl, trivial, by simpa using hw⟩
instance cloneC_i {w0 : World} {L : List Ent} {s : Sv} {ss : List Ch} [hs : HdE w0 L chcells 20 s ss] : FnC Try.prog 65 w0 L [s.val] (Sv) (fun zz => zz.val) (fun zz => own chcells 20 zz ss :: L) (fun zz => True) (ss.length ≤ 1000000) := ⟨fun hp w hw => (cloneC_c w s ss (hs.h w hw) hp).mono fun e w' ⟨x, h1, h2, h3⟩ => ⟨x, h1, h2, hw.call h3⟩⟩
set_option maxRecDepth 20000 in
theorem r18has_c (w : World) (t : Sv) (ts : List Rt) (p : Pfx) (ht : Lies rcells 19 (hp w) t ts) : Calls Try.prog 34 #[t.val, .agg (pcells p)] w fun e w' => e = .returned (.int .i64 (hasI (hopO ts p))) ∧ Mem w [] w' := by
 have ght : Gv w t rcells 19 ts := ⟨ht⟩
 have htb := ht.bd
 refine calls_of (args := [_, _]) Try.func34 rfl Try.ntmps34 rfl ?_
 change Cw _ _ _ _ _ [(0, t.val), (1, .agg (pcells p))] []
 refine cw_seq ?_
 refine cw_region ?_
 refine sq_boxA rfl fun b3 => ?_
 refine sq_r (ry_assign rfl) ?_
 refine sq_nil ?_
 refine ex_then ?_
 refine cw_seq ?_
 refine cw_seq ?_
 refine cw_region ?_
 refine sq_r (ry_assign rfl) ?_
 refine sq_nil ?_
 refine ex_then ?_
 refine cw_block ?_
 refine cw_loop (X := Nat) (fun zz => [(5, .int .i64 (zz : Nat)), (0, t.val), (3, .pointer (some ⟨b3, 0, none⟩))]) (fun zz => [blk b3 (pcells p) 26]) (fun zz => zz ≤ ts.length ∧ ∀ x ∈ ts.take zz, x.p ≠ p) (fun zz => ts.length - zz) 0 ⟨Nat.zero_le _, by simp⟩ (Sub.cons rfl (Sub.cons rfl (Sub.cons rfl (Sub.nil _)))) (fun w hw => Keep.mem hw) ?_
 rintro i ⟨hi1, hi2⟩
 refine cw_seq ?_
 refine cw_seq ?_
 refine cw_region ?_
 refine sq_r (ry_move rfl) ?_
 refine sq_r (ry_move rfl) ?_
 refine sq_r (ry_lenH rfl) ?_
 refine sq_r (ry_int rfl rfl rfl) ?_
 refine sq_nil ?_
 refine ex_then ?_
 refine cw_cond rfl (fun h0 => ?_) (fun h0 => ?_)
 ·
  try simp only [bz0, bz1, bz2, bz3, bz4, bz5, bz6, bz7, bz8, bz9] at h0
  obtain ⟨e, he⟩ := get_some (xs := ts) (i := i) (by omega)
  refine cw_skip ?_
  refine ex_then ?_
  refine cw_seq ?_
  refine cw_block ?_
  refine cw_seq ?_
  refine cw_quiet (by kernel_rfl) (by kernel_rfl) ?_
  refine qt_r (ry_move rfl) ?_
  refine qt_r (ry_move rfl) ?_
  refine qt_r (ry_idxH rfl rfl i rfl (by omega)) ?_
  refine qt_r (ry_field rfl rfl) ?_
  refine qt_r (ry_elempH (j := 0) rfl i he rfl (by decide)) ?_
  refine qt_r (ry_whole rfl) ?_
  refine qt_r (ry_eq rfl rfl) ?_
  refine qt_nil ?_
  refine ex_then ?_
  refine cw_cond rfl (fun h1 => ?_) (fun h1 => ?_)
  ·
   try simp only [bz0, bz1, bz2, bz3, bz4, bz5, bz6, bz7, bz8, bz9] at h1
   refine cw_seq ?_
   refine cw_region ?_
   refine sq_r (ry_move rfl) ?_
   refine sq_r (ry_move rfl) ?_
   refine sq_r (ry_idxH rfl rfl i rfl (by omega)) ?_
   refine sq_r (ry_field rfl rfl) ?_
   refine sq_r (ry_elemcH (j := 18) rfl i he rfl (by decide)) ?_
   refine sq_r (ry_conv_u16 rfl) ?_
   refine sq_r (ry_assign rfl) ?_
   refine sq_nil ?_
   refine ex_then ?_
   refine cw_ret ?_
   refine ex_block_ret ?_
   refine ex_pass_ret ?_
   refine ex_pass_ret ?_
   refine ex_block_ret ?_
   refine ex_pass_ret ?_
   refine ex_ret (.inl rfl) (res_1 rfl (rv_tmp rfl)) (fun w1 hw => ?_)
   exact ⟨congrArg (fun b => Ending.returned (Value.int .i64 b)) ((by rw [hop_at he (by simpa using h1) hi2]; rfl)), Keep.mem hw⟩
  ·
   try simp only [bz0, bz1, bz2, bz3, bz4, bz5, bz6, bz7, bz8, bz9] at h1
   refine cw_skip ?_
   refine ex_block ?_
   refine ex_then ?_
   refine cw_region ?_
   refine sq_r (ry_move rfl) ?_
   refine sq_r (ry_add rfl rfl (by omega)) ?_
   refine sq_r (ry_assign rfl) ?_
   refine sq_nil ?_
   exact ex_again (x := (i)) (i + 1) ⟨by first | omega | (simp only []; omega), take_succ_all hi2 he (by simpa using h1)⟩ (by first | omega | (simp only []; omega)) (Sub.cons rfl (Sub.cons rfl (Sub.cons rfl (Sub.nil _)))) (fun w hw => Keep.mem hw)
 ·
  try simp only [bz0, bz1, bz2, bz3, bz4, bz5, bz6, bz7, bz8, bz9] at h0
  obtain rfl : i = ts.length := by omega
  refine cw_exit ?_
  refine ex_pass_exit ?_
  refine ex_pass_exit ?_
  refine ex_block_hit ?_
  refine ex_then ?_
  refine cw_seq ?_
  refine cw_region ?_
  refine sq_r (ry_assign rfl) ?_
  refine sq_nil ?_
  refine ex_then ?_
  refine cw_ret ?_
  refine ex_ret (.inl rfl) (res_1 rfl (rv_tmp rfl)) (fun w1 hw => ?_)
  exact ⟨congrArg (fun b => Ending.returned (Value.int .i64 b)) ((by rw [hop_none.2 fun x hx => hi2 x (by rw [List.take_length]; exact hx)]; rfl)), Keep.mem hw⟩
instance r18has_i {w0 : World} {L : List Ent} {t : Sv} {ts : List Rt} {p : Pfx} [ht : HdE w0 L rcells 19 t ts] : FnQ Try.prog 34 w0 L [t.val, .agg (pcells p)] (.int .i64 (hasI (hopO ts p))) (True) := ⟨fun hp w hw => r18has_c w t ts p (ht.h w hw)⟩
set_option maxRecDepth 20000 in
theorem bsearchF_c (w : World) (t : Sv) (ts : List Rt) (p : Pfx) (ht : Lies rcells 19 (hp w) t ts) (hpre : tright ts = true ∧ pmay p = true) : Calls Try.prog 83 #[t.val, .agg (pcells p), .func (.func 84) #[] #[]] w fun e w' => e = .returned (.tuple #[.int .i64 ((placeN ts p) : Nat), .bool (placeB ts p)]) ∧ Mem w [] w' := by
 have ght : Gv w t rcells 19 ts := ⟨ht⟩
 obtain ⟨hr, hm⟩ := hpre
 have hlen := tr_len hr
 refine calls_of (args := [_, _, _]) Try.func83 rfl Try.ntmps83 rfl ?_
 change Cw _ _ _ _ _ [(0, t.val), (1, .agg (pcells p)), (2, .func (.func 84) #[] #[])] []
 refine cw_seq ?_
 refine cw_region ?_
 refine sq_boxA rfl fun b4 => ?_
 refine sq_r (ry_assign rfl) ?_
 refine sq_r (ry_assign rfl) ?_
 refine sq_nil ?_
 refine ex_then ?_
 refine cw_seq ?_
 refine cw_region ?_
 refine sq_r (ry_move rfl) ?_
 refine sq_r (ry_lenH rfl) ?_
 refine sq_r (ry_assign rfl) ?_
 refine sq_nil ?_
 refine ex_then ?_
 refine cw_seq ?_
 refine cw_region ?_
 refine sq_r (ry_move rfl) ?_
 refine sq_r (ry_assign rfl) ?_
 refine sq_r (ry_assign rfl) ?_
 refine sq_nil ?_
 refine ex_then ?_
 refine cw_seq ?_
 refine cw_block ?_
 refine cw_loop (X := Nat × Nat) (fun zz => [(9, .int .i64 (zz.1 : Nat)), (10, .int .i64 (zz.2 : Nat)), (0, t.val), (2, .func (.func 84) #[] #[]), (4, .pointer (some ⟨b4, 0, none⟩)), (8, .int .i64 (ts.length : Nat))]) (fun zz => [blk b4 (pcells p) 26]) (fun zz => zz.1 ≤ zz.2 ∧ zz.2 ≤ ts.length ∧ bsl (behind ts p) (ts.length + 1) zz.1 zz.2 = bs (behind ts p) ts.length) (fun zz => zz.2 - zz.1) (0, ts.length) ⟨Nat.zero_le _, Nat.le_refl _, rfl⟩ (Sub.cons rfl (Sub.cons rfl (Sub.cons rfl (Sub.cons rfl (Sub.cons rfl (Sub.cons rfl (Sub.nil _))))))) (fun w hw => Keep.mem hw) ?_
 rintro ⟨i, j⟩ ⟨hi1, hi2, hi3⟩
 dsimp only
 simp only at hi1 hi2 hi3
 refine cw_seq ?_
 refine cw_seq ?_
 refine cw_region ?_
 refine sq_r (ry_move rfl) ?_
 refine sq_r (ry_move rfl) ?_
 refine sq_r (ry_int rfl rfl rfl) ?_
 refine sq_nil ?_
 refine ex_then ?_
 refine cw_cond rfl (fun h0 => ?_) (fun h0 => ?_)
 ·
  try simp only [bz0, bz1, bz2, bz3, bz4, bz5, bz6, bz7, bz8, bz9] at h0
  refine cw_skip ?_
  refine ex_then ?_
  refine cw_block ?_
  refine cw_seq ?_
  refine cw_region ?_
  refine sq_r (ry_move rfl) ?_
  refine sq_r (ry_move rfl) ?_
  refine sq_r (ry_add rfl rfl (by omega)) ?_
  refine sq_r (ry_convn (n := i + j) rfl (by simp only [nb]; omega)) ?_
  refine sq_r (ry_shr (p := i + j) rfl rfl (by simp only [nb]; omega) (by omega)) ?_
  refine sq_r (Ry.to (v' := .int .i64 (((i + j) / 2 : Nat) : Int)) (ry_convn (n := (i + j) / 2 ^ 1) rfl (by simp only [nb]; omega)) rfl) ?_
  refine sq_r (ry_assign rfl) ?_
  refine sq_nil ?_
  refine ex_then ?_
  refine cw_seq ?_
  refine cw_quiet (by kernel_rfl) (by kernel_rfl) ?_
  refine qt_r (ry_move rfl) ?_
  refine qt_r (ry_move rfl) ?_
  refine qt_r (ry_move rfl) ?_
  obtain ⟨e, he⟩ := get_some (xs := ts) (i := ((i + j) / 2)) (by omega)
  refine qt_r (ry_idxH rfl rfl ((i + j) / 2) rfl (by omega)) ?_
  refine qt_r (ry_elemH rfl ((i + j) / 2) he rfl) ?_
  refine qt_r (ry_whole rfl) ?_
  refine qt_y (yl_callV (vs := [.agg (rcells e), .agg (pcells p)]) (vs2 := [.agg (rcells e), .agg (pcells p)]) rfl rfl rfl trivial) ?_
  refine qt_r (ry_int rfl rfl rfl) ?_
  refine qt_nil ?_
  refine ex_then ?_
  refine cw_cond rfl (fun h1 => ?_) (fun h1 => ?_)
  ·
   try simp only [bz0, bz1, bz2, bz3, bz4, bz5, bz6, bz7, bz8, bz9] at h1
   have hb : behind ts p ((i + j) / 2) = false := by simp [behind, he, ord_lt.1 h1]
   refine cw_region ?_
   refine sq_r (ry_move rfl) ?_
   refine sq_r (ry_add rfl rfl (by omega)) ?_
   refine sq_r (ry_assign rfl) ?_
   refine sq_nil ?_
   refine ex_block ?_
   exact ex_again (x := (i, j)) (((i + j) / 2) + 1, j) ⟨by first | omega | (simp only []; omega), hi2, by rw [← hi3, bsl_step (show i < j by first | omega | (simp only []; omega)) (by first | omega | (simp only []; omega)), if_neg (by rw [hb]; simp)]⟩ (by simp only; omega) (Sub.cons rfl (Sub.cons rfl (Sub.cons rfl (Sub.cons rfl (Sub.cons rfl (Sub.cons rfl (Sub.nil _))))))) (fun w hw => Keep.mem hw)
  ·
   try simp only [bz0, bz1, bz2, bz3, bz4, bz5, bz6, bz7, bz8, bz9] at h1
   have hb : behind ts p ((i + j) / 2) = true := by
    have := fun h => h1 (ord_lt.2 h)
    simpa [behind, he] using this
   refine cw_region ?_
   refine sq_r (ry_move rfl) ?_
   refine sq_r (ry_assign rfl) ?_
   refine sq_nil ?_
   refine ex_block ?_
   exact ex_again (x := (i, j)) (i, ((i + j) / 2)) ⟨by first | omega | (simp only []; omega), by first | omega | (simp only []; omega), by rw [← hi3, bsl_step (show i < j by first | omega | (simp only []; omega)) (by first | omega | (simp only []; omega)), if_pos hb]⟩ (by simp only; omega) (Sub.cons rfl (Sub.cons rfl (Sub.cons rfl (Sub.cons rfl (Sub.cons rfl (Sub.cons rfl (Sub.nil _))))))) (fun w hw => Keep.mem hw)
 ·
  try simp only [bz0, bz1, bz2, bz3, bz4, bz5, bz6, bz7, bz8, bz9] at h0
  have hpn : placeN ts p = i := by rw [placeN, ← hi3, bsl_stop (by omega) (by omega)]
  have hq : (decide ((i : Int) < (ts.length : Int)) && decide (ordV (ts.getD i zroute).p p = 0)) = placeB ts p := by
   rw [placeB_eq, hpn]
   by_cases h : i < ts.length
   ·
    have h2 := ord_zero ((right_ord hr).may _ (List.mem_of_getElem? (get_getD (d := zroute) h))) hm
    rw [Bool.eq_iff_iff]; simp only [Bool.and_eq_true, decide_eq_true_eq]; rw [h2]
   ·
    simp [h]
  refine cw_exit ?_
  refine ex_pass_exit ?_
  refine ex_pass_exit ?_
  refine ex_block_hit ?_
  refine ex_then ?_
  refine cw_seq ?_
  refine cw_quiet (by kernel_rfl) (by kernel_rfl) ?_
  refine qt_r (ry_move rfl) ?_
  refine qt_r (ry_move rfl) ?_
  refine qt_r (ry_move rfl) ?_
  refine qt_r (ry_int rfl rfl rfl) ?_
  refine qt_r (ry_move rfl) ?_
  refine qt_gt rfl rfl rfl (fun hg => (Ry.yl (ry_move rfl))) ?_
  refine qt_gt rfl rfl rfl (fun hg => (Ry.yl (ry_move rfl))) ?_
  refine qt_gt rfl rfl rfl (fun hg => (Ry.yl (ry_move rfl))) ?_
  refine qt_gt rfl rfl rfl (fun hg => (Ry.yl (ry_idxH (ev_c hg rfl) (ev_c hg rfl) i rfl (by simp only [bz0, bz1, bz2, bz3, bz4, bz5, bz6, bz7, bz8, bz9] at hg; omega)))) ?_
  refine qt_gt rfl rfl rfl (fun hg => (Ry.yl (ry_elemH (ev_c hg rfl) i (get_getD (xs := ts) (i := i) (d := zroute) (by simp only [bz0, bz1, bz2, bz3, bz4, bz5, bz6, bz7, bz8, bz9] at hg; omega)) rfl))) ?_
  refine qt_gt rfl rfl rfl (fun hg => (Ry.yl (ry_whole rfl))) ?_
  refine qt_gt rfl rfl rfl (fun hg => yl_callV (vs := [.agg (rcells (ts.getD i zroute)), .agg (pcells p)]) (vs2 := [.agg (rcells (ts.getD i zroute)), .agg (pcells p)]) (ev_c hg rfl) (evl_cons (ev_c hg rfl) (evl_cons (ev_c hg rfl) evl_nil)) rfl trivial) ?_
  refine qt_gt rfl rfl rfl (fun hg => (Ry.yl (ry_int (ev_c hg rfl) rfl rfl))) ?_
  refine qt_r (ry_and rfl rfl rfl) ?_
  refine qt_r (ry_assign rfl) ?_
  refine qt_r (ry_assign rfl) ?_
  refine qt_nil ?_
  refine ex_then ?_
  refine cw_ret ?_
  refine ex_ret (.inl rfl) (res_2 rfl (rv_tmp rfl) (rv_tmp rfl)) (fun w1 hw => ?_)
  exact ⟨(by rw [hq, hpn]), Keep.mem hw⟩
instance bsearchF_i {w0 : World} {L : List Ent} {t : Sv} {ts : List Rt} {p : Pfx} [ht : HdE w0 L rcells 19 t ts] : FnQ Try.prog 83 w0 L [t.val, .agg (pcells p), .func (.func 84) #[] #[]] (.tuple #[.int .i64 ((placeN ts p) : Nat), .bool (placeB ts p)]) (tright ts = true ∧ pmay p = true) := ⟨fun hp w hw => bsearchF_c w t ts p (ht.h w hw) hp⟩
set_option maxRecDepth 20000 in
theorem dat_c (w : World) (t : Sv) (ts : List Rt) (p : Pfx) (ht : Lies rcells 19 (hp w) t ts) (hpre : tright ts = true ∧ pmay p = true) : Calls Try.prog 63 #[t.val, .agg (pcells p)] w fun e w' => e = .returned (.agg (ldcells (ldO (hopO ts p)))) ∧ Mem w [] w' := by
 have ght : Gv w t rcells 19 ts := ⟨ht⟩
 obtain ⟨hr, hm⟩ := hpre
 obtain ⟨hz1, hz2⟩ := place_hop hr hm
 have hlen := tr_len hr
 refine calls_of (args := [_, _]) Try.func63 rfl Try.ntmps63 rfl ?_
 change Cw _ _ _ _ _ [(0, t.val), (1, .agg (pcells p))] []
 refine cw_seq ?_
 refine cw_region ?_
 refine sq_boxA rfl fun b3 => ?_
 refine sq_allocA fun b4 => ?_
 refine sq_nil ?_
 refine ex_then ?_
 refine cw_seq ?_
 refine cw_region ?_
 refine sq_r (ry_move rfl) ?_
 refine sq_r (ry_whole rfl) ?_
 refine sq_y (yl_callC rfl ⟨by assumption, by assumption⟩) ?_
 refine sq_r (ry_move rfl) ?_
 refine sq_r (ry_extract (v := .int .i64 ((placeN ts p) : Nat)) rfl rfl) ?_
 refine sq_r (ry_extract (v := .bool (placeB ts p)) rfl rfl) ?_
 refine sq_r (ry_assign rfl) ?_
 refine sq_r (ry_assign rfl) ?_
 refine sq_nil ?_
 refine ex_then ?_
 refine cw_seq ?_
 refine cw_seq ?_
 refine cw_region ?_
 refine sq_r (ry_move rfl) ?_
 refine sq_r (ry_not rfl) ?_
 refine sq_nil ?_
 refine ex_then ?_
 refine cw_cond rfl (fun h0 => ?_) (fun h0 => ?_)
 ·
  try simp only [bz0, bz1, bz2, bz3, bz4, bz5, bz6, bz7, bz8, bz9] at h0
  have hz := hz1 (by simpa using h0)
  refine cw_seq ?_
  refine cw_region ?_
  refine sq_r (ry_buildc rfl) ?_
  refine sq_storeW rfl rfl ?_
  refine sq_nil ?_
  refine ex_then ?_
  refine cw_ret ?_
  refine ex_pass_ret ?_
  refine ex_ret (.inl rfl) (res_1 rfl (rv_agg rfl)) (fun w1 hw => ?_)
  exact ⟨(by rw [hz]; rfl), Keep.mem hw⟩
 ·
  try simp only [bz0, bz1, bz2, bz3, bz4, bz5, bz6, bz7, bz8, bz9] at h0
  obtain ⟨x, hx, hz⟩ := hz2 (by simpa using h0)
  have hxl := (List.getElem?_eq_some_iff.1 hx).1
  refine cw_skip ?_
  refine ex_then ?_
  refine cw_seq ?_
  refine cw_region ?_
  refine sq_r (ry_move rfl) ?_
  refine sq_r (ry_move rfl) ?_
  refine sq_r (ry_idxH rfl rfl (placeN ts p) rfl hxl) ?_
  refine sq_r (ry_field rfl rfl) ?_
  refine sq_r (ry_elemcH (j := 18) rfl (placeN ts p) hx rfl (by decide)) ?_
  refine sq_r (ry_buildc rfl) ?_
  refine sq_storeW rfl rfl ?_
  refine sq_nil ?_
  refine ex_then ?_
  refine cw_ret ?_
  refine ex_ret (.inl rfl) (res_1 rfl (rv_agg rfl)) (fun w1 hw => ?_)
  exact ⟨(by rw [hz]; rfl), Keep.mem hw⟩
instance dat_i {w0 : World} {L : List Ent} {t : Sv} {ts : List Rt} {p : Pfx} [ht : HdE w0 L rcells 19 t ts] : FnQ Try.prog 63 w0 L [t.val, .agg (pcells p)] (.agg (ldcells (ldO (hopO ts p)))) (tright ts = true ∧ pmay p = true) := ⟨fun hp w hw => dat_c w t ts p (ht.h w hw) hp⟩

end Go.Proofs.Ytldkgicmfbofiaa

/- What makes one table of another one: walked. -/
namespace Go.Proofs.Ytldkgicmfbofiaa
open Go.Eng Go.Kb
set_option maxRecDepth 20000 in
theorem dchanges_c (w : World) (t : Sv) (ts : List Rt) (u : Sv) (us : List Rt) (ht : Lies rcells 19 (hp w) t ts) (hu : Lies rcells 19 (hp w) u us) (hpre : MayAll ts ∧ MayAll us ∧ ts.length ≤ 1000 ∧ us.length ≤ 1000) : Calls Try.prog 61 #[t.val, u.val] w fun e w' => ∃ zz : Sv, e = .returned (zz.val) ∧ (True) ∧ Mem w [own chcells 20 zz (diffF ts us)] w' := by
 have ght : Gv w t rcells 19 ts := ⟨ht⟩
 have ghu : Gv w u rcells 19 us := ⟨hu⟩
 obtain ⟨hp1, hp2, hp3, hp4⟩ := hpre
 refine calls_of (args := [_, _]) Try.func61 rfl Try.ntmps61 rfl ?_
 change Cw _ _ _ _ _ [(0, t.val), (1, u.val)] []
 refine cw_seq ?_
 refine cw_region ?_
 refine sq_r (ry_assign rfl) ?_
 refine sq_nil ?_
 refine ex_then ?_
 refine cw_seq ?_
 refine cw_region ?_
 refine sq_r (ry_assign rfl) ?_
 refine sq_nil ?_
 refine ex_then ?_
 refine cw_seq ?_
 refine cw_block ?_
 refine cw_loop (X := Sv × List Rt × Sv × List Rt × Sv × List Ch) (fun zz => [(0, zz.1.val), (1, zz.2.2.1.val), (5, zz.2.2.2.2.1.val)]) (fun zz => [own chcells 20 zz.2.2.2.2.1 zz.2.2.2.2.2]) (fun zz => Lies rcells 19 (hp w) zz.1 zz.2.1 ∧ Lies rcells 19 (hp w) zz.2.2.1 zz.2.2.2.1 ∧ diffF ts us = zz.2.2.2.2.2 ++ diffF zz.2.1 zz.2.2.2.1 ∧ zz.2.2.2.2.2.length + zz.2.1.length + zz.2.2.2.1.length ≤ ts.length + us.length ∧ MayAll zz.2.1 ∧ MayAll zz.2.2.2.1) (fun zz => zz.2.1.length + zz.2.2.2.1.length) (t, ts, u, us, Sv.none, []) ⟨ht, hu, rfl, by simp, hp1, hp2⟩ (Sub.cons rfl (Sub.cons rfl (Sub.cons rfl (Sub.nil _)))) (fun w hw => Mem.nilOwn chcells 20 (Keep.mem hw)) ?_
 rintro ⟨x, y, z, v, o, q⟩ ⟨hi1, hi2, hi3, hi4, hi5, hi6⟩
 dsimp only
 simp only at hi1 hi2 hi3 hi4 hi5 hi6
 have gx : Gv w x rcells 19 y := ⟨hi1⟩
 have gz : Gv w z rcells 19 v := ⟨hi2⟩
 refine cw_seq ?_
 refine cw_seq ?_
 refine cw_region ?_
 refine sq_r (ry_move rfl) ?_
 refine sq_r (ry_lenH rfl) ?_
 refine sq_r (ry_int rfl rfl rfl) ?_
 refine sq_r (ry_move rfl) ?_
 refine sq_gf rfl rfl rfl (fun hg => (Ry.yl (ry_move rfl))) ?_
 refine sq_gf rfl rfl rfl (fun hg => (Ry.yl (ry_lenH (ev_c hg rfl)))) ?_
 refine sq_gf rfl rfl rfl (fun hg => (Ry.yl (ry_int (ev_c hg rfl) rfl rfl))) ?_
 refine sq_r (ry_or rfl rfl rfl) ?_
 refine sq_nil ?_
 refine ex_then ?_
 refine cw_cond rfl (fun h0 => ?_) (fun h0 => ?_)
 ·
  try simp only [bz0, bz1, bz2, bz3, bz4, bz5, bz6, bz7, bz8, bz9] at h0
  refine cw_skip ?_
  refine ex_then ?_
  refine cw_block ?_
  refine cw_seq ?_
  refine cw_region ?_
  refine sq_r (ry_assign rfl) ?_
  refine sq_nil ?_
  refine ex_then ?_
  refine cw_cut (X := Int) (fun zz => [(6, .int .i64 zz), (0, x.val), (1, z.val), (5, o.val)]) (fun zz => [own chcells 20 o q]) (fun zz => Nxt y v zz) ?_ ?_
  ·
   refine cw_block ?_
   refine cw_seq ?_
   refine cw_region ?_
   refine sq_r (ry_move rfl) ?_
   refine sq_r (ry_lenH rfl) ?_
   refine sq_r (ry_int rfl rfl rfl) ?_
   refine sq_r (ry_assign rfl) ?_
   refine sq_nil ?_
   refine ex_then ?_
   refine cw_cond rfl (fun h1 => ?_) (fun h1 => ?_)
   ·
    try simp only [bz0, bz1, bz2, bz3, bz4, bz5, bz6, bz7, bz8, bz9] at h1
    refine cw_region ?_
    refine sq_r (ry_assign rfl) ?_
    refine sq_nil ?_
    refine ex_block ?_
    exact ex_meet (-1) (nxt_gone (by first | omega | (simp only []; omega)) (by first | omega | (simp only []; omega))) (Sub.cons rfl (Sub.cons rfl (Sub.cons rfl (Sub.cons rfl (Sub.nil _))))) (fun w hw => Keep.mem hw)
   ·
    try simp only [bz0, bz1, bz2, bz3, bz4, bz5, bz6, bz7, bz8, bz9] at h1
    refine cw_seq ?_
    refine cw_region ?_
    refine sq_r (ry_move rfl) ?_
    refine sq_r (ry_lenH rfl) ?_
    refine sq_r (ry_int rfl rfl rfl) ?_
    refine sq_r (ry_assign rfl) ?_
    refine sq_nil ?_
    refine ex_then ?_
    refine cw_cond rfl (fun h2 => ?_) (fun h2 => ?_)
    ·
     try simp only [bz0, bz1, bz2, bz3, bz4, bz5, bz6, bz7, bz8, bz9] at h2
     refine cw_region ?_
     refine sq_r (ry_assign rfl) ?_
     refine sq_nil ?_
     refine ex_block ?_
     exact ex_meet 1 (nxt_new (by first | omega | (simp only []; omega)) (by first | omega | (simp only []; omega))) (Sub.cons rfl (Sub.cons rfl (Sub.cons rfl (Sub.cons rfl (Sub.nil _))))) (fun w hw => Keep.mem hw)
    ·
     try simp only [bz0, bz1, bz2, bz3, bz4, bz5, bz6, bz7, bz8, bz9] at h2
     refine cw_quiet (by kernel_rfl) (by kernel_rfl) ?_
     refine qt_r (ry_move rfl) ?_
     obtain ⟨e16, he16⟩ := get_some (xs := y) (i := 0) (by omega)
     refine qt_r (ry_idxH rfl rfl 0 rfl (by omega)) ?_
     refine qt_r (ry_field rfl rfl) ?_
     refine qt_r (ry_elempH (j := 0) rfl 0 he16 rfl (by decide)) ?_
     refine qt_r (ry_move rfl) ?_
     obtain ⟨e20, he20⟩ := get_some (xs := v) (i := 0) (by omega)
     refine qt_r (ry_idxH rfl rfl 0 rfl (by omega)) ?_
     refine qt_r (ry_field rfl rfl) ?_
     refine qt_r (ry_elempH (j := 0) rfl 0 he20 rfl (by decide)) ?_
     refine qt_y (yl_callC rfl trivial) ?_
     refine qt_r (ry_assign rfl) ?_
     refine qt_nil ?_
     refine ex_block ?_
     exact ex_meet (ordV e16.p e20.p) (nxt_ord hi5 hi6 he16 he20) (Sub.cons rfl (Sub.cons rfl (Sub.cons rfl (Sub.cons rfl (Sub.nil _))))) (fun w hw => Keep.mem hw)
  ·
   rintro h hN
   have hz := hN.lens
   have hz1 := hz.1
   have hz2 := hz.2
   refine cw_cut (X := Sv × List Ch) (fun zz => [(5, zz.1.val), (0, x.val), (1, z.val), (6, .int .i64 h)]) (fun zz => [own chcells 20 zz.1 zz.2]) (fun zz => diffF ts us = zz.2 ++ diffF (if h ≤ 0 then y.drop 1 else y) (if 0 ≤ h then v.drop 1 else v) ∧ zz.2.length ≤ q.length + 1) ?_ ?_
   ·
    refine cw_block ?_
    refine cw_seq ?_
    refine cw_region ?_
    refine sq_r (ry_move rfl) ?_
    refine sq_r (ry_int rfl rfl rfl) ?_
    refine sq_r (ry_assign rfl) ?_
    refine sq_nil ?_
    refine ex_then ?_
    refine cw_cond rfl (fun h3 => ?_) (fun h3 => ?_)
    ·
     try simp only [bz0, bz1, bz2, bz3, bz4, bz5, bz6, bz7, bz8, bz9] at h3
     refine cw_region ?_
     refine sq_r (ry_move rfl) ?_
     refine sq_r (ry_move rfl) ?_
     obtain ⟨e37, he37⟩ := get_some (xs := y) (i := 0) (by omega)
     refine sq_r (ry_idxH rfl rfl 0 rfl (by omega)) ?_
     refine sq_r (ry_elemH rfl 0 he37 rfl) ?_
     refine sq_r (ry_buildc rfl) ?_
     refine sq_buildSlice (enc := chcells) (vals := [_]) [(⟨e37, true⟩ : Ch)] rfl rfl rfl (by decide) (by decide) fun b40 => ?_
     refine sq_append (s := o) (ys := [(⟨e37, true⟩ : Ch)]) rfl rfl (by decide) (fun w hw => src_rows (s := ⟨false, b40, 0, 1, 1, none⟩) Try.underlying27 (by decide) ((inferInstance : Hd _ _ ⟨false, b40, 0, 1, 1, none⟩ chcells 20 [(⟨e37, true⟩ : Ch)]).h w hw)) (by simp only [List.length_append, List.length_cons, List.length_nil]; omega) (by simp only [List.length_append, List.length_cons, List.length_nil]; omega) fun s41 hs41 hl41 => ?_
     refine sq_r (ry_assign rfl) ?_
     refine sq_nil ?_
     refine ex_block ?_
     exact ex_meet (s41, q ++ [⟨e37, true⟩]) ⟨by rw [hi3, hN.gone (by first | omega | (simp only []; omega)) he37, List.append_assoc], by simp only [List.length_append, List.length_cons, List.length_nil]; omega⟩ (Sub.cons rfl (Sub.cons rfl (Sub.cons rfl (Sub.cons rfl (Sub.nil _))))) (fun w hw => Keep.mem hw)
    ·
     try simp only [bz0, bz1, bz2, bz3, bz4, bz5, bz6, bz7, bz8, bz9] at h3
     refine cw_seq ?_
     refine cw_quiet (by kernel_rfl) (by kernel_rfl) ?_
     refine qt_r (ry_move rfl) ?_
     refine qt_r (ry_int rfl rfl rfl) ?_
     refine qt_r (ry_move rfl) ?_
     refine qt_gf rfl rfl rfl (fun hg => (Ry.yl (ry_move rfl))) ?_
     refine qt_gf rfl rfl rfl (fun hg => (Ry.yl (ry_idxH (ev_c hg rfl) rfl 0 rfl (by simp only [bz0, bz1, bz2, bz3, bz4, bz5, bz6, bz7, bz8, bz9] at hg; omega)))) ?_
     refine qt_gf rfl rfl rfl (fun hg => (Ry.yl (ry_field (ev_c hg rfl) rfl))) ?_
     refine qt_gf rfl rfl rfl (fun hg => (Ry.yl (ry_elemcH (j := 18) (ev_c hg rfl) 0 (get_getD (xs := y) (i := 0) (d := zroute) (by simp only [bz0, bz1, bz2, bz3, bz4, bz5, bz6, bz7, bz8, bz9] at hg; omega)) rfl (by decide)))) ?_
     refine qt_gf rfl rfl rfl (fun hg => (Ry.yl (ry_move rfl))) ?_
     refine qt_gf rfl rfl rfl (fun hg => (Ry.yl (ry_idxH (ev_c hg rfl) rfl 0 rfl (by simp only [bz0, bz1, bz2, bz3, bz4, bz5, bz6, bz7, bz8, bz9] at hg; omega)))) ?_
     refine qt_gf rfl rfl rfl (fun hg => (Ry.yl (ry_field (ev_c hg rfl) rfl))) ?_
     refine qt_gf rfl rfl rfl (fun hg => (Ry.yl (ry_elemcH (j := 18) (ev_c hg rfl) 0 (get_getD (xs := v) (i := 0) (d := zroute) (by simp only [bz0, bz1, bz2, bz3, bz4, bz5, bz6, bz7, bz8, bz9] at hg; omega)) rfl (by decide)))) ?_
     refine qt_gf rfl rfl rfl (fun hg => (Ry.yl (ry_int (ev_c hg rfl) (ev_c hg rfl) rfl))) ?_
     refine qt_r (ry_or rfl rfl rfl) ?_
     refine qt_r (ry_assign rfl) ?_
     refine qt_nil ?_
     refine ex_then ?_
     refine cw_cond rfl (fun h4 => ?_) (fun h4 => ?_)
     ·
      try simp only [bz0, bz1, bz2, bz3, bz4, bz5, bz6, bz7, bz8, bz9] at h4
      have h4x : 0 < h ∨ (y.getD 0 zroute).hop ≠ (v.getD 0 zroute).hop := h4.imp_right fun e1 e2 => e1 (by rw [e2])
      refine cw_region ?_
      refine sq_r (ry_move rfl) ?_
      refine sq_r (ry_move rfl) ?_
      obtain ⟨e58, he58⟩ := get_some (xs := v) (i := 0) (by omega)
      refine sq_r (ry_idxH rfl rfl 0 rfl (by omega)) ?_
      refine sq_r (ry_elemH rfl 0 he58 rfl) ?_
      refine sq_r (ry_buildc rfl) ?_
      refine sq_buildSlice (enc := chcells) (vals := [_]) [(⟨e58, false⟩ : Ch)] rfl rfl rfl (by decide) (by decide) fun b61 => ?_
      refine sq_append (s := o) (ys := [(⟨e58, false⟩ : Ch)]) rfl rfl (by decide) (fun w hw => src_rows (s := ⟨false, b61, 0, 1, 1, none⟩) Try.underlying27 (by decide) ((inferInstance : Hd _ _ ⟨false, b61, 0, 1, 1, none⟩ chcells 20 [(⟨e58, false⟩ : Ch)]).h w hw)) (by simp only [List.length_append, List.length_cons, List.length_nil]; omega) (by simp only [List.length_append, List.length_cons, List.length_nil]; omega) fun s62 hs62 hl62 => ?_
      refine sq_r (ry_assign rfl) ?_
      refine sq_nil ?_
      refine ex_block ?_
      exact ex_meet (s62, q ++ [⟨e58, false⟩]) ⟨by rw [hi3, hN.new (by first | omega | (simp only []; omega)) he58 h4x, List.append_assoc], by simp only [List.length_append, List.length_cons, List.length_nil]; omega⟩ (Sub.cons rfl (Sub.cons rfl (Sub.cons rfl (Sub.cons rfl (Sub.nil _))))) (fun w hw => Keep.mem hw)
     ·
      try simp only [bz0, bz1, bz2, bz3, bz4, bz5, bz6, bz7, bz8, bz9] at h4
      have h4x : ¬ 0 < h ∧ (y.getD 0 zroute).hop = (v.getD 0 zroute).hop := ⟨by omega, UInt16.toNat_inj.1 (by omega)⟩
      refine cw_skip ?_
      refine ex_block ?_
      exact ex_meet (o, q) ⟨by rw [hi3, hN.none (by first | omega | (simp only []; omega)) h4x], by first | omega | (simp only []; omega)⟩ (Sub.cons rfl (Sub.cons rfl (Sub.cons rfl (Sub.cons rfl (Sub.nil _))))) (fun w hw => Keep.mem hw)
   ·
    rintro ⟨o2, q2⟩ ⟨hk1, hk2⟩
    dsimp only
    simp only at hk1 hk2
    refine cw_seq ?_
    refine cw_seq ?_
    refine cw_region ?_
    refine sq_r (ry_move rfl) ?_
    refine sq_r (ry_int rfl rfl rfl) ?_
    refine sq_nil ?_
    refine ex_then ?_
    refine cw_cond rfl (fun h5 => ?_) (fun h5 => ?_)
    ·
     try simp only [bz0, bz1, bz2, bz3, bz4, bz5, bz6, bz7, bz8, bz9] at h5
     refine cw_region ?_
     refine sq_r (ry_move rfl) ?_
     have rg66 : Rg 1 y.length y.length := ⟨by omega⟩
     refine sq_r (ry_subH_lo rfl rfl 1 rfl rg66.h.1) ?_
     refine sq_r (ry_assign rfl) ?_
     refine sq_nil ?_
     refine ex_then ?_
     refine cw_seq ?_
     refine cw_region ?_
     refine sq_r (ry_move rfl) ?_
     refine sq_r (ry_int rfl rfl rfl) ?_
     refine sq_nil ?_
     refine ex_then ?_
     refine cw_cond rfl (fun h6 => ?_) (fun h6 => ?_)
     ·
      try simp only [bz0, bz1, bz2, bz3, bz4, bz5, bz6, bz7, bz8, bz9] at h6
      refine cw_region ?_
      refine sq_r (ry_move rfl) ?_
      have rg70 : Rg 1 v.length v.length := ⟨by omega⟩
      refine sq_r (ry_subH_lo rfl rfl 1 rfl rg70.h.1) ?_
      refine sq_r (ry_assign rfl) ?_
      refine sq_nil ?_
      refine ex_block ?_
      exact ex_again (x := (x, y, z, v, o, q)) (x.sub 19 1 y.length, y.drop 1, z.sub 19 1 v.length, v.drop 1, o2, q2) ⟨sub1 hi1 (by first | omega | (simp only []; omega)), sub1 hi2 (by first | omega | (simp only []; omega)), by rw [hk1, if_pos (by first | omega | (simp only []; omega)), if_pos (by first | omega | (simp only []; omega))], by simp only [List.length_drop]; omega, may_drop hi5, may_drop hi6⟩ (by simp only [List.length_drop]; omega) (Sub.cons rfl (Sub.cons rfl (Sub.cons rfl (Sub.nil _)))) (fun w hw => Keep.mem hw)
     ·
      try simp only [bz0, bz1, bz2, bz3, bz4, bz5, bz6, bz7, bz8, bz9] at h6
      refine cw_skip ?_
      refine ex_block ?_
      exact ex_again (x := (x, y, z, v, o, q)) (x.sub 19 1 y.length, y.drop 1, z, v, o2, q2) ⟨sub1 hi1 (by first | omega | (simp only []; omega)), hi2, by rw [hk1, if_pos (by first | omega | (simp only []; omega)), if_neg (by first | omega | (simp only []; omega))], by simp only [List.length_drop]; omega, may_drop hi5, hi6⟩ (by simp only [List.length_drop]; omega) (Sub.cons rfl (Sub.cons rfl (Sub.cons rfl (Sub.nil _)))) (fun w hw => Keep.mem hw)
    ·
     try simp only [bz0, bz1, bz2, bz3, bz4, bz5, bz6, bz7, bz8, bz9] at h5
     refine cw_skip ?_
     refine ex_then ?_
     refine cw_seq ?_
     refine cw_region ?_
     refine sq_r (ry_move rfl) ?_
     refine sq_r (ry_int rfl rfl rfl) ?_
     refine sq_nil ?_
     refine ex_then ?_
     refine cw_cond rfl (fun h6 => ?_) (fun h6 => ?_)
     ·
      try simp only [bz0, bz1, bz2, bz3, bz4, bz5, bz6, bz7, bz8, bz9] at h6
      refine cw_region ?_
      refine sq_r (ry_move rfl) ?_
      have rg70 : Rg 1 v.length v.length := ⟨by omega⟩
      refine sq_r (ry_subH_lo rfl rfl 1 rfl rg70.h.1) ?_
      refine sq_r (ry_assign rfl) ?_
      refine sq_nil ?_
      refine ex_block ?_
      exact ex_again (x := (x, y, z, v, o, q)) (x, y, z.sub 19 1 v.length, v.drop 1, o2, q2) ⟨hi1, sub1 hi2 (by first | omega | (simp only []; omega)), by rw [hk1, if_neg (by first | omega | (simp only []; omega)), if_pos (by first | omega | (simp only []; omega))], by simp only [List.length_drop]; omega, hi5, may_drop hi6⟩ (by simp only [List.length_drop]; omega) (Sub.cons rfl (Sub.cons rfl (Sub.cons rfl (Sub.nil _)))) (fun w hw => Keep.mem hw)
     ·
      try simp only [bz0, bz1, bz2, bz3, bz4, bz5, bz6, bz7, bz8, bz9] at h6
      refine cw_skip ?_
      refine ex_block ?_
      exact ex_again (x := (x, y, z, v, o, q)) (x, y, z, v, o2, q2) (by exfalso; omega) (by exfalso; omega) (Sub.cons rfl (Sub.cons rfl (Sub.cons rfl (Sub.nil _)))) (fun w hw => Keep.mem hw)
 ·
  try simp only [bz0, bz1, bz2, bz3, bz4, bz5, bz6, bz7, bz8, bz9] at h0
  have hy0 : y = [] := List.length_eq_zero_iff.1 (by omega)
  have hv0 : v = [] := List.length_eq_zero_iff.1 (by omega)
  rw [hy0, hv0, diff_nil, List.append_nil] at hi3
  refine cw_exit ?_
  refine ex_pass_exit ?_
  refine ex_pass_exit ?_
  refine ex_block_hit ?_
  refine ex_then ?_
  refine cw_seq ?_
  refine cw_region ?_
  refine sq_r (ry_move rfl) ?_
  refine sq_r (ry_assign rfl) ?_
  refine sq_nil ?_
  refine ex_then ?_
  refine cw_ret ?_
  refine ex_ret (.inl rfl) (res_1 rfl (rv_tmp rfl)) (fun w1 hw => ?_)
  exact ⟨o, rfl, trivial, by rw [hi3]; exact Keep.mem hw⟩
instance dchanges_i {w0 : World} {L : List Ent} {t : Sv} {ts : List Rt} {u : Sv} {us : List Rt} [ht : HdE w0 L rcells 19 t ts] [hu : HdE w0 L rcells 19 u us] : FnC Try.prog 61 w0 L [t.val, u.val] (Sv) (fun zz => zz.val) (fun zz => own chcells 20 zz (diffF ts us) :: L) (fun zz => True) (MayAll ts ∧ MayAll us ∧ ts.length ≤ 1000 ∧ us.length ≤ 1000) := ⟨fun hp w hw => (dchanges_c w t ts u us (ht.h w hw) (hu.h w hw) hp).mono fun e w' ⟨x, h1, h2, h3⟩ => ⟨x, h1, h2, hw.call h3⟩⟩

end Go.Proofs.Ytldkgicmfbofiaa

/- The reference of package delta: walked. -/
namespace Go.Proofs.Ytldkgicmfbofiaa
open Go.Eng Go.Kb
set_option maxRecDepth 20000 in
theorem r18diff_c (w : World) (t : Sv) (ts : List Rt) (u : Sv) (us : List Rt) (ht : Lies rcells 19 (hp w) t ts) (hu : Lies rcells 19 (hp w) u us) (hpre : ts.length ≤ 1000 ∧ us.length ≤ 1000) : Calls Try.prog 37 #[t.val, u.val] w fun e w' => ∃ zz : Sv, e = .returned (zz.val) ∧ (True) ∧ Mem w [own chcells 20 zz (diffF ts us)] w' := by
 have ght : Gv w t rcells 19 ts := ⟨ht⟩
 have ghu : Gv w u rcells 19 us := ⟨hu⟩
 obtain ⟨hp3, hp4⟩ := hpre
 refine calls_of (args := [_, _]) Try.func37 rfl Try.ntmps37 rfl ?_
 change Cw _ _ _ _ _ [(0, t.val), (1, u.val)] []
 refine cw_seq ?_
 refine cw_region ?_
 refine sq_r (ry_assign rfl) ?_
 refine sq_nil ?_
 refine ex_then ?_
 refine cw_seq ?_
 refine cw_region ?_
 refine sq_r (ry_assign rfl) ?_
 refine sq_nil ?_
 refine ex_then ?_
 refine cw_seq ?_
 refine cw_region ?_
 refine sq_r (ry_assign rfl) ?_
 refine sq_r (ry_assign rfl) ?_
 refine sq_nil ?_
 refine ex_then ?_
 refine cw_seq ?_
 refine cw_block ?_
 refine cw_loop (X := Nat × Nat × Sv × List Ch) (fun zz => [(6, .int .i64 (zz.1 : Nat)), (7, .int .i64 (zz.2.1 : Nat)), (5, zz.2.2.1.val), (0, t.val), (1, u.val)]) (fun zz => [own chcells 20 zz.2.2.1 zz.2.2.2]) (fun zz => zz.1 ≤ ts.length ∧ zz.2.1 ≤ us.length ∧ diffF ts us = zz.2.2.2 ++ diffF (ts.drop zz.1) (us.drop zz.2.1) ∧ zz.2.2.2.length ≤ zz.1 + zz.2.1) (fun zz => (ts.length - zz.1) + (us.length - zz.2.1)) (0, 0, Sv.none, []) ⟨Nat.zero_le _, Nat.zero_le _, rfl, Nat.le_refl _⟩ (Sub.cons rfl (Sub.cons rfl (Sub.cons rfl (Sub.cons rfl (Sub.cons rfl (Sub.nil _)))))) (fun w hw => Mem.nilOwn chcells 20 (Keep.mem hw)) ?_
 rintro ⟨i, k, o, q⟩ ⟨hi1, hi2, hi3, hi4⟩
 dsimp only
 simp only at hi1 hi2 hi3 hi4
 refine cw_seq ?_
 refine cw_seq ?_
 refine cw_region ?_
 refine sq_r (ry_move rfl) ?_
 refine sq_r (ry_move rfl) ?_
 refine sq_r (ry_lenH rfl) ?_
 refine sq_r (ry_int rfl rfl rfl) ?_
 refine sq_r (ry_move rfl) ?_
 refine sq_gf rfl rfl rfl (fun hg => (Ry.yl (ry_move rfl))) ?_
 refine sq_gf rfl rfl rfl (fun hg => (Ry.yl (ry_move rfl))) ?_
 refine sq_gf rfl rfl rfl (fun hg => (Ry.yl (ry_lenH (ev_c hg rfl)))) ?_
 refine sq_gf rfl rfl rfl (fun hg => (Ry.yl (ry_int (ev_c hg rfl) (ev_c hg rfl) rfl))) ?_
 refine sq_r (ry_or rfl rfl rfl) ?_
 refine sq_nil ?_
 refine ex_then ?_
 refine cw_cond rfl (fun h0 => ?_) (fun h0 => ?_)
 ·
  try simp only [bz0, bz1, bz2, bz3, bz4, bz5, bz6, bz7, bz8, bz9] at h0
  refine cw_skip ?_
  refine ex_then ?_
  refine cw_block ?_
  refine cw_seq ?_
  refine cw_seq ?_
  refine cw_quiet (by kernel_rfl) (by kernel_rfl) ?_
  refine qt_r (ry_move rfl) ?_
  refine qt_r (ry_move rfl) ?_
  refine qt_r (ry_lenH rfl) ?_
  refine qt_r (ry_int rfl rfl rfl) ?_
  refine qt_r (ry_move rfl) ?_
  refine qt_gf rfl rfl rfl (fun hg => (Ry.yl (ry_move rfl))) ?_
  refine qt_gf rfl rfl rfl (fun hg => (Ry.yl (ry_move rfl))) ?_
  refine qt_gf rfl rfl rfl (fun hg => (Ry.yl (ry_lenH (ev_c hg rfl)))) ?_
  refine qt_gf rfl rfl rfl (fun hg => (Ry.yl (ry_int (ev_c hg rfl) (ev_c hg rfl) rfl))) ?_
  refine qt_gf rfl rfl rfl (fun hg => (Ry.yl (ry_move (ev_c hg rfl)))) ?_
  refine qt_nt rfl rfl rfl (fun hg => (Ry.yl (ry_move rfl))) ?_
  refine qt_nt rfl rfl rfl (fun hg => (Ry.yl (ry_move rfl))) ?_
  refine qt_nt rfl rfl rfl (fun hg => (Ry.yl (ry_idxH (ev_c hg rfl) (ev_c hg rfl) i rfl (by simp only [bz0, bz1, bz2, bz3, bz4, bz5, bz6, bz7, bz8, bz9] at hg; omega)))) ?_
  refine qt_nt rfl rfl rfl (fun hg => (Ry.yl (ry_field (ev_c hg rfl) rfl))) ?_
  refine qt_nt rfl rfl rfl (fun hg => (Ry.yl (ry_elempH (j := 0) (ev_c hg rfl) i (get_getD (xs := ts) (i := i) (d := zroute) (by simp only [bz0, bz1, bz2, bz3, bz4, bz5, bz6, bz7, bz8, bz9] at hg; omega)) rfl (by decide)))) ?_
  refine qt_nt rfl rfl rfl (fun hg => (Ry.yl (ry_move rfl))) ?_
  refine qt_nt rfl rfl rfl (fun hg => (Ry.yl (ry_move rfl))) ?_
  refine qt_nt rfl rfl rfl (fun hg => (Ry.yl (ry_idxH (ev_c hg rfl) (ev_c hg rfl) k rfl (by simp only [bz0, bz1, bz2, bz3, bz4, bz5, bz6, bz7, bz8, bz9] at hg; omega)))) ?_
  refine qt_nt rfl rfl rfl (fun hg => (Ry.yl (ry_field (ev_c hg rfl) rfl))) ?_
  refine qt_nt rfl rfl rfl (fun hg => (Ry.yl (ry_elempH (j := 0) (ev_c hg rfl) k (get_getD (xs := us) (i := k) (d := zroute) (by simp only [bz0, bz1, bz2, bz3, bz4, bz5, bz6, bz7, bz8, bz9] at hg; omega)) rfl (by decide)))) ?_
  refine qt_nt rfl rfl rfl (fun hg => yl_callC (evl_cons (ev_c hg rfl) (evl_cons (ev_c hg rfl) evl_nil)) trivial) ?_
  refine qt_gf rfl rfl rfl (fun hg => (Ry.yl (ry_and (ev_c hg rfl) (ev_cc hg rfl) rfl))) ?_
  refine qt_r (ry_or rfl rfl rfl) ?_
  refine qt_nil ?_
  refine ex_then ?_
  refine cw_cond rfl (fun h1 => ?_) (fun h1 => ?_)
  ·
   try simp only [bz0, bz1, bz2, bz3, bz4, bz5, bz6, bz7, bz8, bz9] at h1
   have hs := ref_gone (ts := ts) (us := us) (i := i) (k := k) (by omega) hi2 (h1.imp (fun h => by omega) fun h => h.2)
   have hil : i < ts.length := by omega
   refine cw_seq ?_
   refine cw_region ?_
   refine sq_r (ry_move rfl) ?_
   refine sq_r (ry_move rfl) ?_
   refine sq_r (ry_move rfl) ?_
   refine sq_r (ry_idxH rfl rfl i rfl (by omega)) ?_
   refine sq_r (ry_elemH rfl i (get_getD (d := zroute) (by omega)) rfl) ?_
   refine sq_r (ry_buildc rfl) ?_
   refine sq_buildSlice (enc := chcells) (vals := [_]) [(⟨(ts.getD i zroute), true⟩ : Ch)] rfl rfl rfl (by decide) (by decide) fun b47 => ?_
   refine sq_append (s := o) (ys := [(⟨(ts.getD i zroute), true⟩ : Ch)]) rfl rfl (by decide) (fun w hw => src_rows (s := ⟨false, b47, 0, 1, 1, none⟩) Try.underlying27 (by decide) ((inferInstance : Hd _ _ ⟨false, b47, 0, 1, 1, none⟩ chcells 20 [(⟨(ts.getD i zroute), true⟩ : Ch)]).h w hw)) (by simp only [List.length_cons, List.length_nil]; omega) (by simp only [List.length_cons, List.length_nil]; omega) fun s48 hs48 hl48 => ?_
   refine sq_r (ry_assign rfl) ?_
   refine sq_nil ?_
   refine ex_then ?_
   refine cw_seq ?_
   refine cw_region ?_
   refine sq_r (ry_move rfl) ?_
   refine sq_r (ry_add rfl rfl (by omega)) ?_
   refine sq_r (ry_assign rfl) ?_
   refine sq_nil ?_
   refine ex_then ?_
   refine cw_exit ?_
   refine ex_pass_exit ?_
   refine ex_block_hit ?_
   exact ex_again (x := (i, k, o, q)) (i + 1, k, s48, q ++ [⟨(ts.getD i zroute), true⟩]) ⟨by first | omega | (simp only []; omega), hi2, by rw [hi3, hs]; simp, by simp only [List.length_append, List.length_cons, List.length_nil]; omega⟩ (by simp only; omega) (Sub.cons rfl (Sub.cons rfl (Sub.cons rfl (Sub.cons rfl (Sub.cons rfl (Sub.nil _)))))) (fun w hw => Keep.mem hw)
  ·
   try simp only [bz0, bz1, bz2, bz3, bz4, bz5, bz6, bz7, bz8, bz9] at h1
   have hkl : k < us.length := by omega
   have h1p : i < ts.length → pless (ts.getD i zroute).p (us.getD k zroute).p = false := fun h => h1.2.resolve_left (by omega)
   refine cw_skip ?_
   refine ex_then ?_
   refine cw_seq ?_
   refine cw_seq ?_
   refine cw_quiet (by kernel_rfl) (by kernel_rfl) ?_
   refine qt_r (ry_move rfl) ?_
   refine qt_r (ry_move rfl) ?_
   refine qt_r (ry_lenH rfl) ?_
   refine qt_r (ry_int rfl rfl rfl) ?_
   refine qt_r (ry_move rfl) ?_
   refine qt_gt rfl rfl rfl (fun hg => (Ry.yl (ry_move rfl))) ?_
   refine qt_gt rfl rfl rfl (fun hg => (Ry.yl (ry_move rfl))) ?_
   refine qt_gt rfl rfl rfl (fun hg => (Ry.yl (ry_idxH (ev_c hg rfl) (ev_c hg rfl) i rfl (by simp only [bz0, bz1, bz2, bz3, bz4, bz5, bz6, bz7, bz8, bz9] at hg; omega)))) ?_
   refine qt_gt rfl rfl rfl (fun hg => (Ry.yl (ry_field (ev_c hg rfl) rfl))) ?_
   refine qt_gt rfl rfl rfl (fun hg => (Ry.yl (ry_elempH (j := 0) (ev_c hg rfl) i (get_getD (xs := ts) (i := i) (d := zroute) (by simp only [bz0, bz1, bz2, bz3, bz4, bz5, bz6, bz7, bz8, bz9] at hg; omega)) rfl (by decide)))) ?_
   refine qt_gt rfl rfl rfl (fun hg => (Ry.yl (ry_move rfl))) ?_
   refine qt_gt rfl rfl rfl (fun hg => (Ry.yl (ry_move rfl))) ?_
   refine qt_gt rfl rfl rfl (fun hg => (Ry.yl (ry_idxH (ev_c hg rfl) (ev_c hg rfl) k rfl (by simp only [bz0, bz1, bz2, bz3, bz4, bz5, bz6, bz7, bz8, bz9] at hg; omega)))) ?_
   refine qt_gt rfl rfl rfl (fun hg => (Ry.yl (ry_field (ev_c hg rfl) rfl))) ?_
   refine qt_gt rfl rfl rfl (fun hg => (Ry.yl (ry_elempH (j := 0) (ev_c hg rfl) k (get_getD (xs := us) (i := k) (d := zroute) (by simp only [bz0, bz1, bz2, bz3, bz4, bz5, bz6, bz7, bz8, bz9] at hg; omega)) rfl (by decide)))) ?_
   refine qt_gt rfl rfl rfl (fun hg => (Ry.yl (ry_eq (ev_c hg rfl) (ev_c hg rfl)))) ?_
   refine qt_r (ry_and rfl rfl rfl) ?_
   refine qt_nil ?_
   refine ex_then ?_
   refine cw_cond rfl (fun h2 => ?_) (fun h2 => ?_)
   ·
    try simp only [bz0, bz1, bz2, bz3, bz4, bz5, bz6, bz7, bz8, bz9] at h2
    have hs := ref_both (ts := ts) (us := us) (by omega) hkl (h1p (by omega)) h2.2
    have hil : i < ts.length := by omega
    refine cw_seq ?_
    refine cw_seq ?_
    refine cw_quiet (by kernel_rfl) (by kernel_rfl) ?_
    refine qt_r (ry_move rfl) ?_
    refine qt_r (ry_move rfl) ?_
    refine qt_r (ry_idxH rfl rfl i rfl (by omega)) ?_
    refine qt_r (ry_field rfl rfl) ?_
    refine qt_r (ry_elemcH (j := 18) rfl i (get_getD (d := zroute) (by omega)) rfl (by decide)) ?_
    refine qt_r (ry_move rfl) ?_
    refine qt_r (ry_move rfl) ?_
    refine qt_r (ry_idxH rfl rfl k rfl (by omega)) ?_
    refine qt_r (ry_field rfl rfl) ?_
    refine qt_r (ry_elemcH (j := 18) rfl k (get_getD (d := zroute) (by omega)) rfl (by decide)) ?_
    refine qt_r (ry_int rfl rfl rfl) ?_
    refine qt_nil ?_
    refine ex_then ?_
    refine cw_cond rfl (fun h3 => ?_) (fun h3 => ?_)
    ·
     try simp only [bz0, bz1, bz2, bz3, bz4, bz5, bz6, bz7, bz8, bz9] at h3
     rw [if_pos (fun e => h3 (by rw [e]))] at hs
     refine cw_region ?_
     refine sq_r (ry_move rfl) ?_
     refine sq_r (ry_move rfl) ?_
     refine sq_r (ry_move rfl) ?_
     refine sq_r (ry_idxH rfl rfl k rfl (by omega)) ?_
     refine sq_r (ry_elemH rfl k (get_getD (d := zroute) (by omega)) rfl) ?_
     refine sq_r (ry_buildc rfl) ?_
     refine sq_buildSlice (enc := chcells) (vals := [_]) [(⟨(us.getD k zroute), false⟩ : Ch)] rfl rfl rfl (by decide) (by decide) fun b85 => ?_
     refine sq_append (s := o) (ys := [(⟨(us.getD k zroute), false⟩ : Ch)]) rfl rfl (by decide) (fun w hw => src_rows (s := ⟨false, b85, 0, 1, 1, none⟩) Try.underlying27 (by decide) ((inferInstance : Hd _ _ ⟨false, b85, 0, 1, 1, none⟩ chcells 20 [(⟨(us.getD k zroute), false⟩ : Ch)]).h w hw)) (by simp only [List.length_cons, List.length_nil]; omega) (by simp only [List.length_cons, List.length_nil]; omega) fun s86 hs86 hl86 => ?_
     refine sq_r (ry_assign rfl) ?_
     refine sq_nil ?_
     refine ex_then ?_
     refine cw_seq ?_
     refine cw_region ?_
     refine sq_r (ry_move rfl) ?_
     refine sq_r (ry_add rfl rfl (by omega)) ?_
     refine sq_r (ry_assign rfl) ?_
     refine sq_nil ?_
     refine ex_then ?_
     refine cw_seq ?_
     refine cw_region ?_
     refine sq_r (ry_move rfl) ?_
     refine sq_r (ry_add rfl rfl (by omega)) ?_
     refine sq_r (ry_assign rfl) ?_
     refine sq_nil ?_
     refine ex_then ?_
     refine cw_exit ?_
     refine ex_pass_exit ?_
     refine ex_block_hit ?_
     exact ex_again (x := (i, k, o, q)) (i + 1, k + 1, s86, q ++ [⟨(us.getD k zroute), false⟩]) ⟨by first | omega | (simp only []; omega), by first | omega | (simp only []; omega), by rw [hi3, hs]; simp, by simp only [List.length_append, List.length_cons, List.length_nil]; omega⟩ (by simp only; omega) (Sub.cons rfl (Sub.cons rfl (Sub.cons rfl (Sub.cons rfl (Sub.cons rfl (Sub.nil _)))))) (fun w hw => Keep.mem hw)
    ·
     try simp only [bz0, bz1, bz2, bz3, bz4, bz5, bz6, bz7, bz8, bz9] at h3
     rw [if_neg (fun e => e (UInt16.toNat_inj.1 (by omega)))] at hs
     refine cw_skip ?_
     refine ex_then ?_
     refine cw_seq ?_
     refine cw_region ?_
     refine sq_r (ry_move rfl) ?_
     refine sq_r (ry_add rfl rfl (by omega)) ?_
     refine sq_r (ry_assign rfl) ?_
     refine sq_nil ?_
     refine ex_then ?_
     refine cw_seq ?_
     refine cw_region ?_
     refine sq_r (ry_move rfl) ?_
     refine sq_r (ry_add rfl rfl (by omega)) ?_
     refine sq_r (ry_assign rfl) ?_
     refine sq_nil ?_
     refine ex_then ?_
     refine cw_exit ?_
     refine ex_pass_exit ?_
     refine ex_block_hit ?_
     exact ex_again (x := (i, k, o, q)) (i + 1, k + 1, o, q) ⟨by first | omega | (simp only []; omega), by first | omega | (simp only []; omega), by rw [hi3, hs]; simp, by first | omega | (simp only []; omega)⟩ (by simp only; omega) (Sub.cons rfl (Sub.cons rfl (Sub.cons rfl (Sub.cons rfl (Sub.cons rfl (Sub.nil _)))))) (fun w hw => Keep.mem hw)
   ·
    try simp only [bz0, bz1, bz2, bz3, bz4, bz5, bz6, bz7, bz8, bz9] at h2
    have hs := ref_new (ts := ts) (us := us) hi1 hkl (fun h => ⟨h1p h, h2.resolve_left (by omega)⟩)
    refine cw_skip ?_
    refine ex_then ?_
    refine cw_seq ?_
    refine cw_region ?_
    refine sq_r (ry_move rfl) ?_
    refine sq_r (ry_move rfl) ?_
    refine sq_r (ry_move rfl) ?_
    refine sq_r (ry_idxH rfl rfl k rfl (by omega)) ?_
    refine sq_r (ry_elemH rfl k (get_getD (d := zroute) (by omega)) rfl) ?_
    refine sq_r (ry_buildc rfl) ?_
    refine sq_buildSlice (enc := chcells) (vals := [_]) [(⟨(us.getD k zroute), false⟩ : Ch)] rfl rfl rfl (by decide) (by decide) fun b97 => ?_
    refine sq_append (s := o) (ys := [(⟨(us.getD k zroute), false⟩ : Ch)]) rfl rfl (by decide) (fun w hw => src_rows (s := ⟨false, b97, 0, 1, 1, none⟩) Try.underlying27 (by decide) ((inferInstance : Hd _ _ ⟨false, b97, 0, 1, 1, none⟩ chcells 20 [(⟨(us.getD k zroute), false⟩ : Ch)]).h w hw)) (by simp only [List.length_cons, List.length_nil]; omega) (by simp only [List.length_cons, List.length_nil]; omega) fun s98 hs98 hl98 => ?_
    refine sq_r (ry_assign rfl) ?_
    refine sq_nil ?_
    refine ex_then ?_
    refine cw_region ?_
    refine sq_r (ry_move rfl) ?_
    refine sq_r (ry_add rfl rfl (by omega)) ?_
    refine sq_r (ry_assign rfl) ?_
    refine sq_nil ?_
    refine ex_block ?_
    exact ex_again (x := (i, k, o, q)) (i, k + 1, s98, q ++ [⟨(us.getD k zroute), false⟩]) ⟨hi1, by first | omega | (simp only []; omega), by rw [hi3, hs]; simp, by simp only [List.length_append, List.length_cons, List.length_nil]; omega⟩ (by simp only; omega) (Sub.cons rfl (Sub.cons rfl (Sub.cons rfl (Sub.cons rfl (Sub.cons rfl (Sub.nil _)))))) (fun w hw => Keep.mem hw)
 ·
  try simp only [bz0, bz1, bz2, bz3, bz4, bz5, bz6, bz7, bz8, bz9] at h0
  obtain rfl : i = ts.length := by omega
  obtain rfl : k = us.length := by omega
  rw [List.drop_length, List.drop_length, diff_nil, List.append_nil] at hi3
  refine cw_exit ?_
  refine ex_pass_exit ?_
  refine ex_pass_exit ?_
  refine ex_block_hit ?_
  refine ex_then ?_
  refine cw_seq ?_
  refine cw_region ?_
  refine sq_r (ry_move rfl) ?_
  refine sq_r (ry_assign rfl) ?_
  refine sq_nil ?_
  refine ex_then ?_
  refine cw_ret ?_
  refine ex_ret (.inl rfl) (res_1 rfl (rv_tmp rfl)) (fun w1 hw => ?_)
  exact ⟨o, rfl, trivial, by rw [hi3]; exact Keep.mem hw⟩
instance r18diff_i {w0 : World} {L : List Ent} {t : Sv} {ts : List Rt} {u : Sv} {us : List Rt} [ht : HdE w0 L rcells 19 t ts] [hu : HdE w0 L rcells 19 u us] : FnC Try.prog 37 w0 L [t.val, u.val] (Sv) (fun zz => zz.val) (fun zz => own chcells 20 zz (diffF ts us) :: L) (fun zz => True) (ts.length ≤ 1000 ∧ us.length ≤ 1000) := ⟨fun hp w hw => (r18diff_c w t ts u us (ht.h w hw) (hu.h w hw) hp).mono fun e w' ⟨x, h1, h2, h3⟩ => ⟨x, h1, h2, hw.call h3⟩⟩
set_option maxRecDepth 20000 in
theorem r18fold_c (w : World) (l : Sv) (ls : List Ch) (hl : Lies chcells 20 (hp w) l ls) (hpre : ls.length ≤ 1000 ∧ MayC ls) : Calls Try.prog 39 #[l.val] w fun e w' => ∃ zz : Sv, e = .returned (zz.val) ∧ (True) ∧ Mem w [own chcells 20 zz (rfoldF ls)] w' := by
 have ghl : Gv w l chcells 20 ls := ⟨hl⟩
 obtain ⟨hp1, hp2⟩ := hpre
 refine calls_of (args := [_]) Try.func39 rfl Try.ntmps39 rfl ?_
 change Cw _ _ _ _ _ [(0, l.val)] []
 refine cw_seq ?_
 refine cw_region ?_
 refine sq_r (ry_assign rfl) ?_
 refine sq_nil ?_
 refine ex_then ?_
 refine cw_seq ?_
 refine cw_region ?_
 refine sq_r (ry_assign rfl) ?_
 refine sq_nil ?_
 refine ex_then ?_
 refine cw_seq ?_
 refine cw_seq ?_
 refine cw_region ?_
 refine sq_r (ry_assign rfl) ?_
 refine sq_nil ?_
 refine ex_then ?_
 refine cw_block ?_
 refine cw_loop (X := Nat × Sv × List Ch) (fun zz => [(4, .int .i64 (zz.1 : Nat)), (3, zz.2.1.val), (0, l.val)]) (fun zz => [own chcells 20 zz.2.1 zz.2.2]) (fun zz => zz.1 ≤ ls.length ∧ zz.2.2 = rfoldF (ls.take zz.1) ∧ zz.2.2.length ≤ zz.1) (fun zz => ls.length - zz.1) (0, Sv.none, []) ⟨Nat.zero_le _, rfl, Nat.le_refl _⟩ (Sub.cons rfl (Sub.cons rfl (Sub.cons rfl (Sub.nil _)))) (fun w hw => Mem.nilOwn chcells 20 (Keep.mem hw)) ?_
 rintro ⟨i, o, q⟩ ⟨hi1, hi2, hi3⟩
 dsimp only
 simp only at hi1 hi2 hi3
 refine cw_seq ?_
 refine cw_seq ?_
 refine cw_region ?_
 refine sq_r (ry_move rfl) ?_
 refine sq_r (ry_move rfl) ?_
 refine sq_r (ry_lenH rfl) ?_
 refine sq_r (ry_int rfl rfl rfl) ?_
 refine sq_nil ?_
 refine ex_then ?_
 refine cw_cond rfl (fun h0 => ?_) (fun h0 => ?_)
 ·
  try simp only [bz0, bz1, bz2, bz3, bz4, bz5, bz6, bz7, bz8, bz9] at h0
  obtain ⟨c, hc⟩ := get_some (xs := ls) (i := i) (by omega)
  have hcm := hp2 c (List.mem_of_getElem? hc)
  refine cw_skip ?_
  refine ex_then ?_
  refine cw_seq ?_
  refine cw_block ?_
  refine cw_seq ?_
  refine cw_region ?_
  refine sq_r (ry_assign rfl) ?_
  refine sq_nil ?_
  refine ex_then ?_
  refine cw_seq ?_
  refine cw_region ?_
  refine sq_r (ry_assign rfl) ?_
  refine sq_nil ?_
  refine ex_then ?_
  refine cw_seq ?_
  refine cw_seq ?_
  refine cw_region ?_
  refine sq_r (ry_assign rfl) ?_
  refine sq_nil ?_
  refine ex_then ?_
  refine cw_block ?_
  refine cw_loop (X := Nat × Sv × List Ch × Bool) (fun zz => [(7, .int .i64 (zz.1 : Nat)), (5, zz.2.1.val), (6, .bool zz.2.2.2), (0, l.val), (3, o.val), (4, .int .i64 (i : Nat))]) (fun zz => [own chcells 20 zz.2.1 zz.2.2.1, own chcells 20 o q]) (fun zz => zz.1 ≤ q.length ∧ putC c q false = zz.2.2.1 ++ putC c (q.drop zz.1) zz.2.2.2 ∧ zz.2.2.1.length ≤ 2 * zz.1) (fun zz => q.length - zz.1) (0, Sv.none, [], false) ⟨Nat.zero_le _, rfl, Nat.le_refl _⟩ (Sub.cons rfl (Sub.cons rfl (Sub.cons rfl (Sub.cons rfl (Sub.cons rfl (Sub.cons rfl (Sub.nil _))))))) (fun w hw => Mem.nilOwn chcells 20 (Keep.mem hw)) ?_
  rintro ⟨k, v, z, dn⟩ ⟨hk1, hk2, hk3⟩
  dsimp only
  simp only at hk1 hk2 hk3
  refine cw_seq ?_
  refine cw_seq ?_
  refine cw_region ?_
  refine sq_r (ry_move rfl) ?_
  refine sq_r (ry_move rfl) ?_
  refine sq_r (ry_lenH rfl) ?_
  refine sq_r (ry_int rfl rfl rfl) ?_
  refine sq_nil ?_
  refine ex_then ?_
  refine cw_cond rfl (fun h1 => ?_) (fun h1 => ?_)
  ·
   try simp only [bz0, bz1, bz2, bz3, bz4, bz5, bz6, bz7, bz8, bz9] at h1
   obtain ⟨e, he⟩ := get_some (xs := q) (i := k) (by omega)
   refine cw_skip ?_
   refine ex_then ?_
   refine cw_seq ?_
   refine cw_block ?_
   refine cw_seq ?_
   refine cw_seq ?_
   refine cw_quiet (by kernel_rfl) (by kernel_rfl) ?_
   refine qt_r (ry_move rfl) ?_
   refine qt_r (ry_not rfl) ?_
   refine qt_r (ry_move rfl) ?_
   refine qt_gt rfl rfl rfl (fun hg => (Ry.yl (ry_move rfl))) ?_
   refine qt_gt rfl rfl rfl (fun hg => (Ry.yl (ry_move rfl))) ?_
   refine qt_gt rfl rfl rfl (fun hg => (Ry.yl (ry_idxH (ev_c hg rfl) (ev_c hg rfl) k rfl (by simp only [bz0, bz1, bz2, bz3, bz4, bz5, bz6, bz7, bz8, bz9] at hg; omega)))) ?_
   refine qt_gt rfl rfl rfl (fun hg => (Ry.yl (ry_field (ev_c hg rfl) rfl))) ?_
   refine qt_gt rfl rfl rfl (fun hg => (Ry.yl (ry_field (ev_c hg rfl) rfl))) ?_
   refine qt_gt rfl rfl rfl (fun hg => (Ry.yl (ry_elempH (j := 0) (ev_c hg rfl) k he rfl (by decide)))) ?_
   refine qt_gt rfl rfl rfl (fun hg => (Ry.yl (ry_move rfl))) ?_
   refine qt_gt rfl rfl rfl (fun hg => (Ry.yl (ry_move rfl))) ?_
   refine qt_gt rfl rfl rfl (fun hg => (Ry.yl (ry_idxH (ev_c hg rfl) (ev_c hg rfl) i rfl (by simp only [bz0, bz1, bz2, bz3, bz4, bz5, bz6, bz7, bz8, bz9] at hg; omega)))) ?_
   refine qt_gt rfl rfl rfl (fun hg => (Ry.yl (ry_field (ev_c hg rfl) rfl))) ?_
   refine qt_gt rfl rfl rfl (fun hg => (Ry.yl (ry_field (ev_c hg rfl) rfl))) ?_
   refine qt_gt rfl rfl rfl (fun hg => (Ry.yl (ry_elempH (j := 0) (ev_c hg rfl) i hc rfl (by decide)))) ?_
   refine qt_gt rfl rfl rfl (fun hg => yl_callC (evl_cons (ev_c hg rfl) (evl_cons (ev_c hg rfl) evl_nil)) trivial) ?_
   refine qt_gt rfl rfl rfl (fun hg => (Ry.yl (ry_not (ev_c hg rfl)))) ?_
   refine qt_r (ry_and rfl rfl rfl) ?_
   refine qt_nil ?_
   refine ex_then ?_
   refine cw_cond rfl (fun h2 => ?_) (fun h2 => ?_)
   ·
    try simp only [bz0, bz1, bz2, bz3, bz4, bz5, bz6, bz7, bz8, bz9] at h2
    obtain ⟨h2a, h2b⟩ := h2
    refine cw_seq ?_
    refine cw_region ?_
    refine sq_r (ry_move rfl) ?_
    refine sq_r (ry_move rfl) ?_
    refine sq_r (ry_move rfl) ?_
    refine sq_r (ry_idxH rfl rfl i rfl (by omega)) ?_
    refine sq_r (ry_elemH rfl i hc rfl) ?_
    refine sq_buildSlice (enc := chcells) (vals := [_]) [c] rfl rfl rfl (by decide) (by decide) fun b43 => ?_
    refine sq_append (s := v) (ys := [c]) rfl rfl (by decide) (fun w hw => src_rows (s := ⟨false, b43, 0, 1, 1, none⟩) Try.underlying27 (by decide) ((inferInstance : Hd _ _ ⟨false, b43, 0, 1, 1, none⟩ chcells 20 [c]).h w hw)) (by simp only [List.length_append, List.length_cons, List.length_nil]; omega) (by simp only [List.length_append, List.length_cons, List.length_nil]; omega) fun s44 hs44 hl44 => ?_
    refine sq_r (ry_assign rfl) ?_
    refine sq_nil ?_
    refine ex_then ?_
    refine cw_region ?_
    refine sq_r (ry_assign rfl) ?_
    refine sq_nil ?_
    refine ex_then ?_
    refine cw_seq ?_
    refine cw_quiet (by kernel_rfl) (by kernel_rfl) ?_
    refine qt_r (ry_move rfl) ?_
    refine qt_r (ry_move rfl) ?_
    refine qt_r (ry_idxH rfl rfl k rfl (by omega)) ?_
    refine qt_r (ry_field rfl rfl) ?_
    refine qt_r (ry_field rfl rfl) ?_
    refine qt_r (ry_elempH (j := 0) rfl k he rfl (by decide)) ?_
    refine qt_r (ry_move rfl) ?_
    refine qt_r (ry_move rfl) ?_
    refine qt_r (ry_idxH rfl rfl i rfl (by omega)) ?_
    refine qt_r (ry_field rfl rfl) ?_
    refine qt_r (ry_field rfl rfl) ?_
    refine qt_r (ry_elempH (j := 0) rfl i hc rfl (by decide)) ?_
    refine qt_r (ry_ne rfl rfl) ?_
    refine qt_nil ?_
    refine ex_then ?_
    refine cw_cond rfl (fun h3 => ?_) (fun h3 => ?_)
    ·
     try simp only [bz0, bz1, bz2, bz3, bz4, bz5, bz6, bz7, bz8, bz9] at h3
     refine cw_region ?_
     refine sq_r (ry_move rfl) ?_
     refine sq_r (ry_move rfl) ?_
     refine sq_r (ry_move rfl) ?_
     refine sq_r (ry_idxH rfl rfl k rfl (by omega)) ?_
     refine sq_r (ry_elemH rfl k he rfl) ?_
     refine sq_buildSlice (enc := chcells) (vals := [_]) [e] rfl rfl rfl (by decide) (by decide) fun b63 => ?_
     refine sq_append (s := s44) (ys := [e]) rfl rfl (by decide) (fun w hw => src_rows (s := ⟨false, b63, 0, 1, 1, none⟩) Try.underlying27 (by decide) ((inferInstance : Hd _ _ ⟨false, b63, 0, 1, 1, none⟩ chcells 20 [e]).h w hw)) (by simp only [List.length_append, List.length_cons, List.length_nil]; omega) (by simp only [List.length_append, List.length_cons, List.length_nil]; omega) fun s64 hs64 hl64 => ?_
     refine sq_r (ry_assign rfl) ?_
     refine sq_nil ?_
     refine ex_block ?_
     refine ex_then ?_
     refine cw_region ?_
     refine sq_r (ry_move rfl) ?_
     refine sq_r (ry_add rfl rfl (by omega)) ?_
     refine sq_r (ry_assign rfl) ?_
     refine sq_nil ?_
     exact ex_again (x := (k, v, z, dn)) (k + 1, s64, (z ++ [c]) ++ [e], true) ⟨by first | omega | (simp only []; omega), by rw [hk2, dropAt he, putC_yes h2a h2b, if_pos h3]; simp, by simp only [List.length_append, List.length_cons, List.length_nil]; omega⟩ (by simp only; omega) (Sub.cons rfl (Sub.cons rfl (Sub.cons rfl (Sub.cons rfl (Sub.cons rfl (Sub.cons rfl (Sub.nil _))))))) (fun w hw => Keep.mem hw)
    ·
     try simp only [bz0, bz1, bz2, bz3, bz4, bz5, bz6, bz7, bz8, bz9] at h3
     refine cw_skip ?_
     refine ex_block ?_
     refine ex_then ?_
     refine cw_region ?_
     refine sq_r (ry_move rfl) ?_
     refine sq_r (ry_add rfl rfl (by omega)) ?_
     refine sq_r (ry_assign rfl) ?_
     refine sq_nil ?_
     exact ex_again (x := (k, v, z, dn)) (k + 1, s44, z ++ [c], true) ⟨by first | omega | (simp only []; omega), by rw [hk2, dropAt he, putC_yes h2a h2b, if_neg (fun hn => hn h3)]; simp, by simp only [List.length_append, List.length_cons, List.length_nil]; omega⟩ (by simp only; omega) (Sub.cons rfl (Sub.cons rfl (Sub.cons rfl (Sub.cons rfl (Sub.cons rfl (Sub.cons rfl (Sub.nil _))))))) (fun w hw => Keep.mem hw)
   ·
    try simp only [bz0, bz1, bz2, bz3, bz4, bz5, bz6, bz7, bz8, bz9] at h2
    refine cw_skip ?_
    refine ex_then ?_
    refine cw_seq ?_
    refine cw_quiet (by kernel_rfl) (by kernel_rfl) ?_
    refine qt_r (ry_move rfl) ?_
    refine qt_r (ry_move rfl) ?_
    refine qt_r (ry_idxH rfl rfl k rfl (by omega)) ?_
    refine qt_r (ry_field rfl rfl) ?_
    refine qt_r (ry_field rfl rfl) ?_
    refine qt_r (ry_elempH (j := 0) rfl k he rfl (by decide)) ?_
    refine qt_r (ry_move rfl) ?_
    refine qt_r (ry_move rfl) ?_
    refine qt_r (ry_idxH rfl rfl i rfl (by omega)) ?_
    refine qt_r (ry_field rfl rfl) ?_
    refine qt_r (ry_field rfl rfl) ?_
    refine qt_r (ry_elempH (j := 0) rfl i hc rfl (by decide)) ?_
    refine qt_r (ry_ne rfl rfl) ?_
    refine qt_nil ?_
    refine ex_then ?_
    refine cw_cond rfl (fun h3 => ?_) (fun h3 => ?_)
    ·
     try simp only [bz0, bz1, bz2, bz3, bz4, bz5, bz6, bz7, bz8, bz9] at h3
     refine cw_region ?_
     refine sq_r (ry_move rfl) ?_
     refine sq_r (ry_move rfl) ?_
     refine sq_r (ry_move rfl) ?_
     refine sq_r (ry_idxH rfl rfl k rfl (by omega)) ?_
     refine sq_r (ry_elemH rfl k he rfl) ?_
     refine sq_buildSlice (enc := chcells) (vals := [_]) [e] rfl rfl rfl (by decide) (by decide) fun b63 => ?_
     refine sq_append (s := v) (ys := [e]) rfl rfl (by decide) (fun w hw => src_rows (s := ⟨false, b63, 0, 1, 1, none⟩) Try.underlying27 (by decide) ((inferInstance : Hd _ _ ⟨false, b63, 0, 1, 1, none⟩ chcells 20 [e]).h w hw)) (by simp only [List.length_append, List.length_cons, List.length_nil]; omega) (by simp only [List.length_append, List.length_cons, List.length_nil]; omega) fun s64 hs64 hl64 => ?_
     refine sq_r (ry_assign rfl) ?_
     refine sq_nil ?_
     refine ex_block ?_
     refine ex_then ?_
     refine cw_region ?_
     refine sq_r (ry_move rfl) ?_
     refine sq_r (ry_add rfl rfl (by omega)) ?_
     refine sq_r (ry_assign rfl) ?_
     refine sq_nil ?_
     exact ex_again (x := (k, v, z, dn)) (k + 1, s64, z ++ [e], dn) ⟨by first | omega | (simp only []; omega), by rw [hk2, dropAt he, putC_no h2, if_pos h3]; simp, by simp only [List.length_append, List.length_cons, List.length_nil]; omega⟩ (by simp only; omega) (Sub.cons rfl (Sub.cons rfl (Sub.cons rfl (Sub.cons rfl (Sub.cons rfl (Sub.cons rfl (Sub.nil _))))))) (fun w hw => Keep.mem hw)
    ·
     try simp only [bz0, bz1, bz2, bz3, bz4, bz5, bz6, bz7, bz8, bz9] at h3
     refine cw_skip ?_
     refine ex_block ?_
     refine ex_then ?_
     refine cw_region ?_
     refine sq_r (ry_move rfl) ?_
     refine sq_r (ry_add rfl rfl (by omega)) ?_
     refine sq_r (ry_assign rfl) ?_
     refine sq_nil ?_
     exact ex_again (x := (k, v, z, dn)) (k + 1, v, z, dn) ⟨by first | omega | (simp only []; omega), by rw [hk2, dropAt he, putC_no h2, if_neg (fun hn => hn h3)]; simp, by simp only [List.length_append, List.length_cons, List.length_nil]; omega⟩ (by simp only; omega) (Sub.cons rfl (Sub.cons rfl (Sub.cons rfl (Sub.cons rfl (Sub.cons rfl (Sub.cons rfl (Sub.nil _))))))) (fun w hw => Keep.mem hw)
  ·
   try simp only [bz0, bz1, bz2, bz3, bz4, bz5, bz6, bz7, bz8, bz9] at h1
   obtain rfl : k = q.length := by omega
   refine cw_exit ?_
   refine ex_pass_exit ?_
   refine ex_pass_exit ?_
   refine ex_block_hit ?_
   refine ex_then ?_
   refine cw_seq ?_
   refine cw_seq ?_
   refine cw_region ?_
   refine sq_r (ry_move rfl) ?_
   refine sq_r (ry_not rfl) ?_
   refine sq_nil ?_
   refine ex_then ?_
   refine cw_cond rfl (fun h4 => ?_) (fun h4 => ?_)
   ·
    try simp only [bz0, bz1, bz2, bz3, bz4, bz5, bz6, bz7, bz8, bz9] at h4
    rw [h4, List.drop_length, putC, if_neg (by simp)] at hk2
    refine cw_region ?_
    refine sq_r (ry_move rfl) ?_
    refine sq_r (ry_move rfl) ?_
    refine sq_r (ry_move rfl) ?_
    refine sq_r (ry_idxH rfl rfl i rfl (by omega)) ?_
    refine sq_r (ry_elemH rfl i hc rfl) ?_
    refine sq_buildSlice (enc := chcells) (vals := [_]) [c] rfl rfl rfl (by decide) (by decide) fun b72 => ?_
    refine sq_append (s := v) (ys := [c]) rfl rfl (by decide) (fun w hw => src_rows (s := ⟨false, b72, 0, 1, 1, none⟩) Try.underlying27 (by decide) ((inferInstance : Hd _ _ ⟨false, b72, 0, 1, 1, none⟩ chcells 20 [c]).h w hw)) (by simp only [List.length_append, List.length_cons, List.length_nil]; omega) (by simp only [List.length_append, List.length_cons, List.length_nil]; omega) fun s73 hs73 hl73 => ?_
    refine sq_r (ry_assign rfl) ?_
    refine sq_nil ?_
    refine ex_then ?_
    refine cw_region ?_
    refine sq_r (ry_move rfl) ?_
    refine sq_r (ry_assign rfl) ?_
    refine sq_nil ?_
    refine ex_block ?_
    refine ex_then ?_
    refine cw_region ?_
    refine sq_r (ry_move rfl) ?_
    refine sq_r (ry_add rfl rfl (by omega)) ?_
    refine sq_r (ry_assign rfl) ?_
    refine sq_nil ?_
    exact ex_again (x := (i, o, q)) (i + 1, s73, z ++ [c]) ⟨by first | omega | (simp only []; omega), by rw [rfold_yes hc hcm, ← hi2, hk2], by have := putC_len1 c q; rw [hk2] at this; exact Nat.le_trans this (by first | omega | (simp only []; omega))⟩ (by simp only; omega) (Sub.cons rfl (Sub.cons rfl (Sub.cons rfl (Sub.nil _)))) (fun w hw => Keep.mem hw)
   ·
    try simp only [bz0, bz1, bz2, bz3, bz4, bz5, bz6, bz7, bz8, bz9] at h4
    rw [h4, List.drop_length, putC, if_pos rfl, List.append_nil] at hk2
    refine cw_skip ?_
    refine ex_then ?_
    refine cw_region ?_
    refine sq_r (ry_move rfl) ?_
    refine sq_r (ry_assign rfl) ?_
    refine sq_nil ?_
    refine ex_block ?_
    refine ex_then ?_
    refine cw_region ?_
    refine sq_r (ry_move rfl) ?_
    refine sq_r (ry_add rfl rfl (by omega)) ?_
    refine sq_r (ry_assign rfl) ?_
    refine sq_nil ?_
    exact ex_again (x := (i, o, q)) (i + 1, v, z) ⟨by first | omega | (simp only []; omega), by rw [rfold_yes hc hcm, ← hi2, hk2], by have := putC_len1 c q; rw [hk2] at this; exact Nat.le_trans this (by first | omega | (simp only []; omega))⟩ (by simp only; omega) (Sub.cons rfl (Sub.cons rfl (Sub.cons rfl (Sub.nil _)))) (fun w hw => Keep.mem hw)
 ·
  try simp only [bz0, bz1, bz2, bz3, bz4, bz5, bz6, bz7, bz8, bz9] at h0
  obtain rfl : i = ls.length := by omega
  refine cw_exit ?_
  refine ex_pass_exit ?_
  refine ex_pass_exit ?_
  refine ex_block_hit ?_
  refine ex_then ?_
  refine cw_seq ?_
  refine cw_region ?_
  refine sq_r (ry_move rfl) ?_
  refine sq_r (ry_assign rfl) ?_
  refine sq_nil ?_
  refine ex_then ?_
  refine cw_ret ?_
  refine ex_ret (.inl rfl) (res_1 rfl (rv_tmp rfl)) (fun w1 hw => ?_)
  exact ⟨o, rfl, trivial, by rw [hi2, List.take_length] at hw; exact Keep.mem hw⟩
instance r18fold_i {w0 : World} {L : List Ent} {l : Sv} {ls : List Ch} [hl : HdE w0 L chcells 20 l ls] : FnC Try.prog 39 w0 L [l.val] (Sv) (fun zz => zz.val) (fun zz => own chcells 20 zz (rfoldF ls) :: L) (fun zz => True) (ls.length ≤ 1000 ∧ MayC ls) := ⟨fun hp w hw => (r18fold_c w l ls (hl.h w hw) hp).mono fun e w' ⟨x, h1, h2, h3⟩ => ⟨x, h1, h2, hw.call h3⟩⟩
set_option maxRecDepth 20000 in
theorem same17_c (w : World) (u : Sv) (us : List Pfx) (v : Sv) (vs : List Pfx) (hu : Lies pcells 18 (hp w) u us) (hv : Lies pcells 18 (hp w) v vs) : Calls Try.prog 43 #[u.val, v.val] w fun e w' => e = .returned (.bool (decide (us = vs))) ∧ Mem w [] w' := by
 have ghu : Gv w u pcells 18 us := ⟨hu⟩
 have ghv : Gv w v pcells 18 vs := ⟨hv⟩
 have hub := hu.bd
 refine calls_of (args := [_, _]) Try.func43 rfl Try.ntmps43 rfl ?_
 change Cw _ _ _ _ _ [(0, u.val), (1, v.val)] []
 refine cw_seq ?_
 refine cw_region ?_
 refine sq_r (ry_assign rfl) ?_
 refine sq_nil ?_
 refine ex_then ?_
 refine cw_seq ?_
 refine cw_seq ?_
 refine cw_region ?_
 refine sq_r (ry_move rfl) ?_
 refine sq_r (ry_lenH rfl) ?_
 refine sq_r (ry_move rfl) ?_
 refine sq_r (ry_lenH rfl) ?_
 refine sq_r (ry_int rfl rfl rfl) ?_
 refine sq_nil ?_
 refine ex_then ?_
 refine cw_cond rfl (fun h0 => ?_) (fun h0 => ?_)
 ·
  try simp only [bz0, bz1, bz2, bz3, bz4, bz5, bz6, bz7, bz8, bz9] at h0
  have hno : ¬ us = vs := fun e => h0 (by rw [e])
  refine cw_seq ?_
  refine cw_region ?_
  refine sq_r (ry_assign rfl) ?_
  refine sq_nil ?_
  refine ex_then ?_
  refine cw_ret ?_
  refine ex_pass_ret ?_
  refine ex_ret (.inl rfl) (res_1 rfl (rv_tmp rfl)) (fun w1 hw => ?_)
  exact ⟨congrArg (fun b => Ending.returned (Value.bool b)) ((decide_eq_false hno).symm), Keep.mem hw⟩
 ·
  try simp only [bz0, bz1, bz2, bz3, bz4, bz5, bz6, bz7, bz8, bz9] at h0
  refine cw_skip ?_
  refine ex_then ?_
  refine cw_seq ?_
  refine cw_seq ?_
  refine cw_region ?_
  refine sq_r (ry_assign rfl) ?_
  refine sq_nil ?_
  refine ex_then ?_
  refine cw_block ?_
  refine cw_loop (X := Nat) (fun zz => [(5, .int .i64 (zz : Nat)), (0, u.val), (1, v.val)]) (fun zz => []) (fun zz => zz ≤ us.length ∧ ∀ j, j < zz → us[j]? = vs[j]?) (fun zz => us.length - zz) 0 ⟨Nat.zero_le _, fun j h => by first | omega | (simp only []; omega)⟩ (Sub.cons rfl (Sub.cons rfl (Sub.cons rfl (Sub.nil _)))) (fun w hw => Keep.mem hw) ?_
  rintro i ⟨hi1, hi2⟩
  refine cw_seq ?_
  refine cw_seq ?_
  refine cw_region ?_
  refine sq_r (ry_move rfl) ?_
  refine sq_r (ry_move rfl) ?_
  refine sq_r (ry_lenH rfl) ?_
  refine sq_r (ry_int rfl rfl rfl) ?_
  refine sq_nil ?_
  refine ex_then ?_
  refine cw_cond rfl (fun h1 => ?_) (fun h1 => ?_)
  ·
   try simp only [bz0, bz1, bz2, bz3, bz4, bz5, bz6, bz7, bz8, bz9] at h1
   obtain ⟨a, ha⟩ := get_some (xs := us) (i := i) (by omega)
   obtain ⟨b, hb⟩ := get_some (xs := vs) (i := i) (by omega)
   refine cw_skip ?_
   refine ex_then ?_
   refine cw_seq ?_
   refine cw_block ?_
   refine cw_seq ?_
   refine cw_quiet (by kernel_rfl) (by kernel_rfl) ?_
   refine qt_r (ry_move rfl) ?_
   refine qt_r (ry_move rfl) ?_
   refine qt_r (ry_idxH rfl rfl i rfl (by omega)) ?_
   refine qt_r (ry_elemH rfl i ha rfl) ?_
   refine qt_r (ry_move rfl) ?_
   refine qt_r (ry_move rfl) ?_
   refine qt_r (ry_idxH rfl rfl i rfl (by omega)) ?_
   refine qt_r (ry_elemH rfl i hb rfl) ?_
   refine qt_r (ry_ne rfl rfl) ?_
   refine qt_nil ?_
   refine ex_then ?_
   refine cw_cond rfl (fun h2 => ?_) (fun h2 => ?_)
   ·
    try simp only [bz0, bz1, bz2, bz3, bz4, bz5, bz6, bz7, bz8, bz9] at h2
    have hno : ¬ us = vs := list_no ha hb h2
    refine cw_seq ?_
    refine cw_region ?_
    refine sq_r (ry_assign rfl) ?_
    refine sq_nil ?_
    refine ex_then ?_
    refine cw_ret ?_
    refine ex_block_ret ?_
    refine ex_pass_ret ?_
    refine ex_pass_ret ?_
    refine ex_block_ret ?_
    refine ex_pass_ret ?_
    refine ex_ret (.inl rfl) (res_1 rfl (rv_tmp rfl)) (fun w1 hw => ?_)
    exact ⟨congrArg (fun b => Ending.returned (Value.bool b)) ((decide_eq_false hno).symm), Keep.mem hw⟩
   ·
    try simp only [bz0, bz1, bz2, bz3, bz4, bz5, bz6, bz7, bz8, bz9] at h2
    refine cw_skip ?_
    refine ex_block ?_
    refine ex_then ?_
    refine cw_region ?_
    refine sq_r (ry_move rfl) ?_
    refine sq_r (ry_add rfl rfl (by omega)) ?_
    refine sq_r (ry_assign rfl) ?_
    refine sq_nil ?_
    exact ex_again (x := (i)) (i + 1) ⟨by first | omega | (simp only []; omega), fun j hj => if e : j = i then (by subst e; rw [ha, hb, h2]) else hi2 j (by first | omega | (simp only []; omega))⟩ (by first | omega | (simp only []; omega)) (Sub.cons rfl (Sub.cons rfl (Sub.cons rfl (Sub.nil _)))) (fun w hw => Keep.mem hw)
  ·
   try simp only [bz0, bz1, bz2, bz3, bz4, bz5, bz6, bz7, bz8, bz9] at h1
   have hyes : us = vs := list_all (by omega) (fun j hj => hi2 j (by omega))
   refine cw_exit ?_
   refine ex_pass_exit ?_
   refine ex_pass_exit ?_
   refine ex_block_hit ?_
   refine ex_then ?_
   refine cw_seq ?_
   refine cw_region ?_
   refine sq_r (ry_assign rfl) ?_
   refine sq_nil ?_
   refine ex_then ?_
   refine cw_ret ?_
   refine ex_ret (.inl rfl) (res_1 rfl (rv_tmp rfl)) (fun w1 hw => ?_)
   exact ⟨congrArg (fun b => Ending.returned (Value.bool b)) ((decide_eq_true hyes).symm), Keep.mem hw⟩
instance same17_i {w0 : World} {L : List Ent} {u : Sv} {us : List Pfx} {v : Sv} {vs : List Pfx} [hu : HdE w0 L pcells 18 u us] [hv : HdE w0 L pcells 18 v vs] : FnQ Try.prog 43 w0 L [u.val, v.val] (.bool (decide (us = vs))) (True) := ⟨fun hp w hw => same17_c w u us v vs (hu.h w hw) (hv.h w hw)⟩

end Go.Proofs.Ytldkgicmfbofiaa

/- Package delta: folded, needed, undone: walked. -/
namespace Go.Proofs.Ytldkgicmfbofiaa
open Go.Eng Go.Kb
set_option maxRecDepth 20000 in
theorem dfold_c (w : World) (l : Sv) (ls : List Ch) (hl : Lies chcells 20 (hp w) l ls) (hpre : ls.length ≤ 1000) : Calls Try.prog 35 #[l.val] w fun e w' => ∃ zz : Sv, e = .returned (.tuple #[zz.val, .int .i64 (fldE ls)]) ∧ (True) ∧ Mem w [own chcells 20 zz (fldL ls)] w' := by
 have ghl : Gv w l chcells 20 ls := ⟨hl⟩
 refine calls_of (args := [_]) Try.func35 rfl Try.ntmps35 rfl ?_
 change Cw _ _ _ _ _ [(0, l.val)] []
 refine cw_seq ?_
 refine cw_region ?_
 refine sq_r (ry_assign rfl) ?_
 refine sq_r (ry_assign rfl) ?_
 refine sq_nil ?_
 refine ex_then ?_
 refine cw_seq ?_
 refine cw_seq ?_
 refine cw_region ?_
 refine sq_r (ry_move rfl) ?_
 refine sq_y (yl_callC rfl trivial) ?_
 refine sq_r (ry_not rfl) ?_
 refine sq_nil ?_
 refine ex_then ?_
 refine cw_cond rfl (fun h0 => ?_) (fun h0 => ?_)
 ·
  try simp only [bz0, bz1, bz2, bz3, bz4, bz5, bz6, bz7, bz8, bz9] at h0
  have hE : fldE ls = 1 := by rw [fldE, if_neg (by rw [h0]; simp)]
  have hL : fldL ls = [] := by rw [fldL, if_neg (by rw [hE]; decide)]
  refine cw_seq ?_
  refine cw_region ?_
  refine sq_r (ry_assign rfl) ?_
  refine sq_r (ry_assign rfl) ?_
  refine sq_nil ?_
  refine ex_then ?_
  refine cw_ret ?_
  refine ex_pass_ret ?_
  refine ex_ret (.inl rfl) (res_2 rfl (rv_tmp rfl) (rv_tmp rfl)) (fun w1 hw => ?_)
  exact ⟨Sv.none, by rw [hE]; rfl, trivial, by rw [hL]; exact (Keep.mem hw : Mem w [] _).nilOwn chcells 20⟩
 ·
  try simp only [bz0, bz1, bz2, bz3, bz4, bz5, bz6, bz7, bz8, bz9] at h0
  have hmc : MayC ls := mayB_iff.1 h0
  have hE : fldE ls = 0 := by rw [fldE, if_pos h0]
  have hL : fldL ls = foldF ls := by rw [fldL, if_pos hE]
  refine cw_skip ?_
  refine ex_then ?_
  refine cw_seq ?_
  refine cw_region ?_
  refine sq_r (ry_move rfl) ?_
  refine sq_callC rfl (by omega) fun x12 hp12 => ?_
  refine sq_r (ry_assign rfl) ?_
  refine sq_nil ?_
  refine ex_then ?_
  refine cw_seq ?_
  refine cw_region ?_
  refine sq_r (ry_move rfl) ?_
  refine sq_callC rfl ⟨by omega, by assumption⟩ fun x14 hp14 => ?_
  have hxl : x14.length = ls.length := hp14.length
  have hts := fold_of (ts := ls) (by rw [keepC_all hmc]; exact hp14)
  refine sq_nil ?_
  refine ex_then ?_
  refine cw_seq ?_
  refine cw_region ?_
  refine sq_r (ry_assign rfl) ?_
  refine sq_nil ?_
  refine ex_then ?_
  refine cw_seq ?_
  refine cw_seq ?_
  refine cw_region ?_
  refine sq_r (ry_move rfl) ?_
  refine sq_r (ry_lenH rfl) ?_
  refine sq_r (ry_move rfl) ?_
  refine sq_nil ?_
  refine ex_then ?_
  refine cw_block ?_
  refine cw_loop (X := Nat × Sv × List Ch) (fun zz => [(17, .int .i64 (zz.1 : Nat)), (5, zz.2.1.val), (4, x12.val), (15, x12.val), (16, .int .i64 (x14.length : Nat))]) (fun zz => [own chcells 20 zz.2.1 zz.2.2, own chcells 20 x12 x14]) (fun zz => zz.1 ≤ x14.length ∧ zz.2.2 = ddC x14 zz.1) (fun zz => x14.length - zz.1) (0, Sv.none, []) ⟨Nat.zero_le _, rfl⟩ (Sub.cons rfl (Sub.cons rfl (Sub.cons rfl (Sub.cons rfl (Sub.cons rfl (Sub.nil _)))))) (fun w hw => Mem.nilOwn chcells 20 (Keep.mem hw)) ?_
  rintro ⟨i, o, q⟩ ⟨hi1, hi2⟩
  dsimp only
  simp only at hi1 hi2
  have hql := ddC_length x14 i
  rw [← hi2] at hql
  refine cw_seq ?_
  refine cw_region ?_
  refine sq_r (ry_int rfl rfl rfl) ?_
  refine sq_nil ?_
  refine ex_then ?_
  refine cw_seq ?_
  refine cw_cond rfl (fun h1 => ?_) (fun h1 => ?_)
  ·
   try simp only [bz0, bz1, bz2, bz3, bz4, bz5, bz6, bz7, bz8, bz9] at h1
   refine cw_skip ?_
   refine ex_then ?_
   refine cw_seq ?_
   refine cw_block ?_
   refine cw_seq ?_
   refine cw_region ?_
   refine sq_r (ry_move rfl) ?_
   obtain ⟨c, hc⟩ := get_some (xs := x14) (i := i) (by omega)
   refine sq_r (ry_idxH rfl rfl i rfl (by omega)) ?_
   refine sq_r (ry_elemH rfl i hc rfl) ?_
   refine sq_allocA fun b7 => ?_
   refine sq_r (ry_assign rfl) ?_
   refine sq_storeW rfl rfl ?_
   refine sq_nil ?_
   refine ex_then ?_
   refine cw_seq ?_
   refine cw_quiet (by kernel_rfl) (by kernel_rfl) ?_
   refine qt_r (ry_move rfl) ?_
   refine qt_r (ry_add rfl rfl (by omega)) ?_
   refine qt_r (ry_move rfl) ?_
   refine qt_r (ry_lenH rfl) ?_
   refine qt_r (ry_int rfl rfl rfl) ?_
   refine qt_r (ry_move rfl) ?_
   refine qt_gf rfl rfl rfl (fun hg => (Ry.yl (ry_move rfl))) ?_
   refine qt_gf rfl rfl rfl (fun hg => (Ry.yl (ry_move rfl))) ?_
   refine qt_gf rfl rfl rfl (fun hg => (Ry.yl (ry_add (ev_c hg rfl) rfl (by simp only [bz0, bz1, bz2, bz3, bz4, bz5, bz6, bz7, bz8, bz9] at hg; omega)))) ?_
   refine qt_gf rfl rfl rfl (fun hg => (Ry.yl (ry_idxH (ev_c hg rfl) (ev_c hg rfl) (i + 1) rfl (by simp only [bz0, bz1, bz2, bz3, bz4, bz5, bz6, bz7, bz8, bz9] at hg; omega)))) ?_
   refine qt_gf rfl rfl rfl (fun hg => (Ry.yl (ry_field (ev_c hg rfl) rfl))) ?_
   refine qt_gf rfl rfl rfl (fun hg => (Ry.yl (ry_field (ev_c hg rfl) rfl))) ?_
   refine qt_gf rfl rfl rfl (fun hg => (Ry.yl (ry_elempH (j := 0) (ev_c hg rfl) (i + 1) (get_getD (xs := x14) (i := (i + 1)) (d := zch) (by simp only [bz0, bz1, bz2, bz3, bz4, bz5, bz6, bz7, bz8, bz9] at hg; omega)) rfl (by decide)))) ?_
   refine qt_gf rfl rfl rfl (fun hg => (Ry.yl (ry_field (o' := 0) rfl rfl))) ?_
   refine qt_gf rfl rfl rfl (fun hg => (Ry.yl (ry_field (o' := 0) (ev_c hg rfl) rfl))) ?_
   refine qt_gf rfl rfl rfl (fun hg => (Ry.yl (ry_part (ev_c hg rfl)))) ?_
   refine qt_gf rfl rfl rfl (fun hg => (Ry.yl (ry_ne (ev_c hg rfl) (ev_c hg rfl)))) ?_
   refine qt_r (ry_or rfl rfl rfl) ?_
   refine qt_nil ?_
   refine ex_then ?_
   refine cw_cond rfl (fun h2 => ?_) (fun h2 => ?_)
   ·
    try simp only [bz0, bz1, bz2, bz3, bz4, bz5, bz6, bz7, bz8, bz9] at h2
    have hne : ∀ y, x14[i + 1]? = some y → y.r.p ≠ c.r.p := fun y hy => by
     rcases h2 with h | h
     ·
      have := (List.getElem?_eq_some_iff.1 hy).1; omega
     ·
      intro e; exact h (by simpa [List.getD, hy] using e)
    refine cw_region ?_
    refine sq_r (ry_move rfl) ?_
    refine sq_r (ry_whole rfl) ?_
    refine sq_buildSlice (enc := chcells) (vals := [_]) [c] rfl rfl rfl (by decide) (by decide) fun b42 => ?_
    refine sq_append (s := o) (ys := [c]) rfl rfl (by decide) (fun w hw => src_rows (s := ⟨false, b42, 0, 1, 1, none⟩) Try.underlying27 (by decide) ((inferInstance : Hd _ _ ⟨false, b42, 0, 1, 1, none⟩ chcells 20 [c]).h w hw)) (by simp only [List.length_append, List.length_cons, List.length_nil]; omega) (by simp only [List.length_append, List.length_cons, List.length_nil]; omega) fun s43 hs43 hl43 => ?_
    refine sq_r (ry_assign rfl) ?_
    refine sq_nil ?_
    refine ex_block ?_
    refine ex_then ?_
    refine cw_region ?_
    refine sq_r (ry_add rfl rfl (by omega)) ?_
    refine sq_r (ry_move rfl) ?_
    refine sq_nil ?_
    exact ex_again (x := (i, o, q)) (i + 1, s43, q ++ [c]) ⟨by first | omega | (simp only []; omega), by rw [ddC_no hc hne, ← hi2]⟩ (by simp only; omega) (Sub.cons rfl (Sub.cons rfl (Sub.cons rfl (Sub.cons rfl (Sub.cons rfl (Sub.nil _)))))) (fun w hw => Keep.mem hw)
   ·
    try simp only [bz0, bz1, bz2, bz3, bz4, bz5, bz6, bz7, bz8, bz9] at h2
    have hil := (List.getElem?_eq_some_iff.1 hc).1
    obtain ⟨y, hy⟩ := get_some (xs := x14) (i := i + 1) (by omega)
    have hyc : y.r.p = c.r.p := by have := h2.2; simpa [List.getD, hy] using this
    refine cw_skip ?_
    refine ex_block ?_
    refine ex_then ?_
    refine cw_region ?_
    refine sq_r (ry_add rfl rfl (by omega)) ?_
    refine sq_r (ry_move rfl) ?_
    refine sq_nil ?_
    exact ex_again (x := (i, o, q)) (i + 1, o, q) ⟨by first | omega | (simp only []; omega), by rw [ddC_yes hc hy hyc]; exact hi2⟩ (by simp only; omega) (Sub.cons rfl (Sub.cons rfl (Sub.cons rfl (Sub.cons rfl (Sub.cons rfl (Sub.nil _)))))) (fun w hw => Keep.mem hw)
  ·
   try simp only [bz0, bz1, bz2, bz3, bz4, bz5, bz6, bz7, bz8, bz9] at h1
   obtain rfl : i = x14.length := by omega
   refine cw_exit ?_
   refine ex_pass_exit ?_
   refine ex_pass_exit ?_
   refine ex_block_hit ?_
   refine ex_then ?_
   refine cw_seq ?_
   refine cw_region ?_
   refine sq_r (ry_move rfl) ?_
   refine sq_r (ry_assign rfl) ?_
   refine sq_r (ry_assign rfl) ?_
   refine sq_nil ?_
   refine ex_then ?_
   refine cw_ret ?_
   refine ex_ret (.inl rfl) (res_2 rfl (rv_tmp rfl) (rv_tmp rfl)) (fun w1 hw => ?_)
   exact ⟨o, by rw [hE], trivial, by rw [hL, hts, ← hi2]; exact Keep.mem hw⟩
instance dfold_i {w0 : World} {L : List Ent} {l : Sv} {ls : List Ch} [hl : HdE w0 L chcells 20 l ls] : FnC Try.prog 35 w0 L [l.val] (Sv) (fun zz => .tuple #[zz.val, .int .i64 (fldE ls)]) (fun zz => own chcells 20 zz (fldL ls) :: L) (fun zz => True) (ls.length ≤ 1000) := ⟨fun hp w hw => (dfold_c w l ls (hl.h w hw) hp).mono fun e w' ⟨x, h1, h2, h3⟩ => ⟨x, h1, h2, hw.call h3⟩⟩
set_option maxRecDepth 20000 in
theorem ddiff_c (w : World) (t : Sv) (ts : List Rt) (u : Sv) (us : List Rt) (ht : Lies rcells 19 (hp w) t ts) (hu : Lies rcells 19 (hp w) u us) : Calls Try.prog 32 #[t.val, u.val] w fun e w' => ∃ zz : Sv, e = .returned (.tuple #[zz.val, .int .i64 (difE ts us)]) ∧ (True) ∧ Mem w [own chcells 20 zz (difL ts us)] w' := by
 have ght : Gv w t rcells 19 ts := ⟨ht⟩
 have ghu : Gv w u rcells 19 us := ⟨hu⟩
 refine calls_of (args := [_, _]) Try.func32 rfl Try.ntmps32 rfl ?_
 change Cw _ _ _ _ _ [(0, t.val), (1, u.val)] []
 refine cw_seq ?_
 refine cw_region ?_
 refine sq_r (ry_assign rfl) ?_
 refine sq_r (ry_assign rfl) ?_
 refine sq_nil ?_
 refine ex_then ?_
 refine cw_seq ?_
 refine cw_seq ?_
 refine cw_region ?_
 refine sq_r (ry_move rfl) ?_
 refine sq_y (yl_callC rfl trivial) ?_
 refine sq_r (ry_not rfl) ?_
 refine sq_r (ry_move rfl) ?_
 refine sq_gf rfl rfl rfl (fun hg => (Ry.yl (ry_move rfl))) ?_
 refine sq_gf rfl rfl rfl (fun hg => yl_callC (evl_cons (ev_c hg rfl) evl_nil) trivial) ?_
 refine sq_gf rfl rfl rfl (fun hg => (Ry.yl (ry_not (ev_c hg rfl)))) ?_
 refine sq_r (ry_or rfl rfl rfl) ?_
 refine sq_nil ?_
 refine ex_then ?_
 refine cw_cond rfl (fun h0 => ?_) (fun h0 => ?_)
 ·
  try simp only [bz0, bz1, bz2, bz3, bz4, bz5, bz6, bz7, bz8, bz9] at h0
  have hE : difE ts us = 1 := by rw [difE, if_neg (by rcases h0 with h | h <;> rw [h] <;> simp)]
  have hL : difL ts us = [] := by rw [difL, if_neg (by rw [hE]; decide)]
  refine cw_seq ?_
  refine cw_region ?_
  refine sq_r (ry_assign rfl) ?_
  refine sq_r (ry_assign rfl) ?_
  refine sq_nil ?_
  refine ex_then ?_
  refine cw_ret ?_
  refine ex_pass_ret ?_
  refine ex_ret (.inl rfl) (res_2 rfl (rv_tmp rfl) (rv_tmp rfl)) (fun w1 hw => ?_)
  exact ⟨Sv.none, by rw [hE]; rfl, trivial, by rw [hL]; exact (Keep.mem hw : Mem w [] _).nilOwn chcells 20⟩
 ·
  try simp only [bz0, bz1, bz2, bz3, bz4, bz5, bz6, bz7, bz8, bz9] at h0
  obtain ⟨h01, h02⟩ := h0
  have hE : difE ts us = 0 := by rw [difE, if_pos (by rw [h01, h02]; rfl)]
  have hL : difL ts us = diffF ts us := by rw [difL, if_pos hE]
  have k1 := (right_ord h01).may
  have k2 := (right_ord h02).may
  have k3 := tr_len h01
  have k4 := tr_len h02
  refine cw_skip ?_
  refine ex_then ?_
  refine cw_seq ?_
  refine cw_region ?_
  refine sq_r (ry_move rfl) ?_
  refine sq_r (ry_move rfl) ?_
  refine sq_callC rfl ⟨k1, k2, by omega, by omega⟩ fun x16 hp16 => ?_
  refine sq_r (ry_assign rfl) ?_
  refine sq_r (ry_assign rfl) ?_
  refine sq_nil ?_
  refine ex_then ?_
  refine cw_ret ?_
  refine ex_ret (.inl rfl) (res_2 rfl (rv_tmp rfl) (rv_tmp rfl)) (fun w1 hw => ?_)
  exact ⟨x16, by rw [hE], trivial, by rw [hL]; exact Keep.mem hw⟩
instance ddiff_i {w0 : World} {L : List Ent} {t : Sv} {ts : List Rt} {u : Sv} {us : List Rt} [ht : HdE w0 L rcells 19 t ts] [hu : HdE w0 L rcells 19 u us] : FnC Try.prog 32 w0 L [t.val, u.val] (Sv) (fun zz => .tuple #[zz.val, .int .i64 (difE ts us)]) (fun zz => own chcells 20 zz (difL ts us) :: L) (fun zz => True) (True) := ⟨fun hp w hw => (ddiff_c w t ts u us (ht.h w hw) (hu.h w hw)).mono fun e w' ⟨x, h1, h2, h3⟩ => ⟨x, h1, h2, hw.call h3⟩⟩
set_option maxRecDepth 20000 in
theorem dbehind_c (w : World) (t : Sv) (ts : List Rt) (l : Sv) (ls : List Ch) (ht : Lies rcells 19 (hp w) t ts) (hl : Lies chcells 20 (hp w) l ls) : Calls Try.prog 69 #[t.val, l.val] w fun e w' => ∃ zz : Sv, e = .returned (.tuple #[zz.val, .int .i64 (bhE ts ls)]) ∧ (True) ∧ Mem w [own rcells 19 zz (bhL ts ls)] w' := by
 have ght : Gv w t rcells 19 ts := ⟨ht⟩
 have ghl : Gv w l chcells 20 ls := ⟨hl⟩
 refine calls_of (args := [_, _]) Try.func69 rfl Try.ntmps69 rfl ?_
 change Cw _ _ _ _ _ [(0, t.val), (1, l.val)] []
 refine cw_seq ?_
 refine cw_region ?_
 refine sq_r (ry_assign rfl) ?_
 refine sq_r (ry_assign rfl) ?_
 refine sq_nil ?_
 refine ex_then ?_
 refine cw_seq ?_
 refine cw_seq ?_
 refine cw_region ?_
 refine sq_r (ry_move rfl) ?_
 refine sq_y (yl_callC rfl trivial) ?_
 refine sq_r (ry_not rfl) ?_
 refine sq_r (ry_move rfl) ?_
 refine sq_gf rfl rfl rfl (fun hg => (Ry.yl (ry_move rfl))) ?_
 refine sq_gf rfl rfl rfl (fun hg => yl_callC (evl_cons (ev_c hg rfl) evl_nil) trivial) ?_
 refine sq_gf rfl rfl rfl (fun hg => (Ry.yl (ry_not (ev_c hg rfl)))) ?_
 refine sq_r (ry_or rfl rfl rfl) ?_
 refine sq_nil ?_
 refine ex_then ?_
 refine cw_cond rfl (fun h0 => ?_) (fun h0 => ?_)
 ·
  try simp only [bz0, bz1, bz2, bz3, bz4, bz5, bz6, bz7, bz8, bz9] at h0
  have hn : ¬ (tright ts && mayB ls) = true := by rcases h0 with h | h <;> rw [h] <;> simp
  have hE : bhE ts ls = 1 := by rw [bhE, if_neg hn]
  have hL : bhL ts ls = [] := by rw [bhL, if_neg hn]
  refine cw_seq ?_
  refine cw_region ?_
  refine sq_r (ry_assign rfl) ?_
  refine sq_r (ry_assign rfl) ?_
  refine sq_nil ?_
  refine ex_then ?_
  refine cw_ret ?_
  refine ex_pass_ret ?_
  refine ex_ret (.inl rfl) (res_2 rfl (rv_tmp rfl) (rv_tmp rfl)) (fun w1 hw => ?_)
  exact ⟨Sv.none, by rw [hE]; rfl, trivial, by rw [hL]; exact (Keep.mem hw : Mem w [] _).nilOwn rcells 19⟩
 ·
  try simp only [bz0, bz1, bz2, bz3, bz4, bz5, bz6, bz7, bz8, bz9] at h0
  obtain ⟨h01, h02⟩ := h0
  have hy : (tright ts && mayB ls) = true := by rw [h01, h02]; rfl
  have hE : bhE ts ls = appE ts ls := by rw [bhE, if_pos hy]
  have hL : bhL ts ls = appL ts ls := by rw [bhL, if_pos hy]
  have k3 := tr_len h01
  have k5 := h01
  refine cw_skip ?_
  refine ex_then ?_
  refine cw_seq ?_
  refine cw_region ?_
  refine sq_r (ry_move rfl) ?_
  refine sq_r (ry_move rfl) ?_
  refine sq_callC rfl (by omega) fun x16 hp16 => ?_
  refine sq_r (ry_extract (v := x16.val) rfl rfl) ?_
  refine sq_r (ry_extract (v := .int .i64 (appE ts ls)) rfl rfl) ?_
  refine sq_r (ry_assign rfl) ?_
  refine sq_r (ry_assign rfl) ?_
  refine sq_nil ?_
  refine ex_then ?_
  refine cw_ret ?_
  refine ex_ret (.inl rfl) (res_2 rfl (rv_tmp rfl) (rv_tmp rfl)) (fun w1 hw => ?_)
  exact ⟨x16, by rw [hE], trivial, by rw [hL]; exact Keep.mem hw⟩
instance dbehind_i {w0 : World} {L : List Ent} {t : Sv} {ts : List Rt} {l : Sv} {ls : List Ch} [ht : HdE w0 L rcells 19 t ts] [hl : HdE w0 L chcells 20 l ls] : FnC Try.prog 69 w0 L [t.val, l.val] (Sv) (fun zz => .tuple #[zz.val, .int .i64 (bhE ts ls)]) (fun zz => own rcells 19 zz (bhL ts ls) :: L) (fun zz => True) (True) := ⟨fun hp w hw => (dbehind_c w t ts l ls (ht.h w hw) (hl.h w hw)).mono fun e w' ⟨x, h1, h2, h3⟩ => ⟨x, h1, h2, hw.call h3⟩⟩
set_option maxRecDepth 20000 in
theorem dneeded_c (w : World) (t : Sv) (ts : List Rt) (l : Sv) (ls : List Ch) (ht : Lies rcells 19 (hp w) t ts) (hl : Lies chcells 20 (hp w) l ls) : Calls Try.prog 40 #[t.val, l.val] w fun e w' => ∃ zz : Sv, e = .returned (.tuple #[zz.val, .int .i64 (bhE ts ls)]) ∧ (True) ∧ Mem w [own chcells 20 zz (needL ts ls)] w' := by
 have ght : Gv w t rcells 19 ts := ⟨ht⟩
 have ghl : Gv w l chcells 20 ls := ⟨hl⟩
 refine calls_of (args := [_, _]) Try.func40 rfl Try.ntmps40 rfl ?_
 change Cw _ _ _ _ _ [(0, t.val), (1, l.val)] []
 refine cw_seq ?_
 refine cw_region ?_
 refine sq_r (ry_assign rfl) ?_
 refine sq_r (ry_assign rfl) ?_
 refine sq_nil ?_
 refine ex_then ?_
 refine cw_seq ?_
 refine cw_region ?_
 refine sq_r (ry_move rfl) ?_
 refine sq_r (ry_move rfl) ?_
 refine sq_callC rfl trivial fun x11 hp11 => ?_
 refine sq_r (ry_move rfl) ?_
 refine sq_r (ry_extract (v := x11.val) rfl rfl) ?_
 refine sq_r (ry_extract (v := .int .i64 (bhE ts ls)) rfl rfl) ?_
 refine sq_r (ry_assign rfl) ?_
 refine sq_r (ry_assign rfl) ?_
 refine sq_nil ?_
 refine ex_then ?_
 refine cw_seq ?_
 refine cw_seq ?_
 refine cw_region ?_
 refine sq_r (ry_move rfl) ?_
 refine sq_r (ry_int rfl rfl rfl) ?_
 refine sq_nil ?_
 refine ex_then ?_
 refine cw_cond rfl (fun h0 => ?_) (fun h0 => ?_)
 ·
  try simp only [bz0, bz1, bz2, bz3, bz4, bz5, bz6, bz7, bz8, bz9] at h0
  have hL : needL ts ls = [] := by rw [needL, if_neg h0]
  refine cw_seq ?_
  refine cw_region ?_
  refine sq_r (ry_move rfl) ?_
  refine sq_r (ry_assign rfl) ?_
  refine sq_r (ry_assign rfl) ?_
  refine sq_nil ?_
  refine ex_then ?_
  refine cw_ret ?_
  refine ex_pass_ret ?_
  refine ex_ret (.inl rfl) (res_2 rfl (rv_tmp rfl) (rv_tmp rfl)) (fun w1 hw => ?_)
  exact ⟨Sv.none, rfl, trivial, by rw [hL]; exact (Keep.mem hw : Mem w [] _).nilOwn chcells 20⟩
 ·
  try simp only [bz0, bz1, bz2, bz3, bz4, bz5, bz6, bz7, bz8, bz9] at h0
  have hbe : bhE ts ls = 0 := by simpa using h0
  obtain ⟨k0, kL, kR⟩ := bh_ok hbe
  have k1 := (right_ord k0).may
  have k2 : MayAll (bhL ts ls) := by rw [kL]; exact (right_ord kR).may
  have k3 := tr_len k0
  have k4 : (bhL ts ls).length ≤ 256 := by rw [kL]; exact tr_len kR
  have hL : needL ts ls = diffF ts (bhL ts ls) := by rw [needL, if_pos hbe, kL]
  refine cw_skip ?_
  refine ex_then ?_
  refine cw_seq ?_
  refine cw_region ?_
  refine sq_r (ry_move rfl) ?_
  refine sq_r (ry_move rfl) ?_
  refine sq_callC rfl ⟨k1, k2, by omega, by omega⟩ fun x19 hp19 => ?_
  refine sq_r (ry_assign rfl) ?_
  refine sq_r (ry_assign rfl) ?_
  refine sq_nil ?_
  refine ex_then ?_
  refine cw_ret ?_
  refine ex_ret (.inl rfl) (res_2 rfl (rv_tmp rfl) (rv_tmp rfl)) (fun w1 hw => ?_)
  exact ⟨x19, by rw [hbe], trivial, by rw [hL]; exact Keep.mem hw⟩
instance dneeded_i {w0 : World} {L : List Ent} {t : Sv} {ts : List Rt} {l : Sv} {ls : List Ch} [ht : HdE w0 L rcells 19 t ts] [hl : HdE w0 L chcells 20 l ls] : FnC Try.prog 40 w0 L [t.val, l.val] (Sv) (fun zz => .tuple #[zz.val, .int .i64 (bhE ts ls)]) (fun zz => own chcells 20 zz (needL ts ls) :: L) (fun zz => True) (True) := ⟨fun hp w hw => (dneeded_c w t ts l ls (ht.h w hw) (hl.h w hw)).mono fun e w' ⟨x, h1, h2, h3⟩ => ⟨x, h1, h2, hw.call h3⟩⟩
set_option maxRecDepth 20000 in
theorem dundo_c (w : World) (t : Sv) (ts : List Rt) (l : Sv) (ls : List Ch) (ht : Lies rcells 19 (hp w) t ts) (hl : Lies chcells 20 (hp w) l ls) : Calls Try.prog 41 #[t.val, l.val] w fun e w' => ∃ zz : Sv, e = .returned (.tuple #[zz.val, .int .i64 (bhE ts ls)]) ∧ (True) ∧ Mem w [own chcells 20 zz (undoL ts ls)] w' := by
 have ght : Gv w t rcells 19 ts := ⟨ht⟩
 have ghl : Gv w l chcells 20 ls := ⟨hl⟩
 refine calls_of (args := [_, _]) Try.func41 rfl Try.ntmps41 rfl ?_
 change Cw _ _ _ _ _ [(0, t.val), (1, l.val)] []
 refine cw_seq ?_
 refine cw_region ?_
 refine sq_r (ry_assign rfl) ?_
 refine sq_r (ry_assign rfl) ?_
 refine sq_nil ?_
 refine ex_then ?_
 refine cw_seq ?_
 refine cw_region ?_
 refine sq_r (ry_move rfl) ?_
 refine sq_r (ry_move rfl) ?_
 refine sq_callC rfl trivial fun x11 hp11 => ?_
 refine sq_r (ry_move rfl) ?_
 refine sq_r (ry_extract (v := x11.val) rfl rfl) ?_
 refine sq_r (ry_extract (v := .int .i64 (bhE ts ls)) rfl rfl) ?_
 refine sq_r (ry_assign rfl) ?_
 refine sq_r (ry_assign rfl) ?_
 refine sq_nil ?_
 refine ex_then ?_
 refine cw_seq ?_
 refine cw_seq ?_
 refine cw_region ?_
 refine sq_r (ry_move rfl) ?_
 refine sq_r (ry_int rfl rfl rfl) ?_
 refine sq_nil ?_
 refine ex_then ?_
 refine cw_cond rfl (fun h0 => ?_) (fun h0 => ?_)
 ·
  try simp only [bz0, bz1, bz2, bz3, bz4, bz5, bz6, bz7, bz8, bz9] at h0
  have hL : undoL ts ls = [] := by rw [undoL, if_neg h0]
  refine cw_seq ?_
  refine cw_region ?_
  refine sq_r (ry_move rfl) ?_
  refine sq_r (ry_assign rfl) ?_
  refine sq_r (ry_assign rfl) ?_
  refine sq_nil ?_
  refine ex_then ?_
  refine cw_ret ?_
  refine ex_pass_ret ?_
  refine ex_ret (.inl rfl) (res_2 rfl (rv_tmp rfl) (rv_tmp rfl)) (fun w1 hw => ?_)
  exact ⟨Sv.none, rfl, trivial, by rw [hL]; exact (Keep.mem hw : Mem w [] _).nilOwn chcells 20⟩
 ·
  try simp only [bz0, bz1, bz2, bz3, bz4, bz5, bz6, bz7, bz8, bz9] at h0
  have hbe : bhE ts ls = 0 := by simpa using h0
  obtain ⟨k0, kL, kR⟩ := bh_ok hbe
  have k1 := (right_ord k0).may
  have k2 : MayAll (bhL ts ls) := by rw [kL]; exact (right_ord kR).may
  have k3 := tr_len k0
  have k4 : (bhL ts ls).length ≤ 256 := by rw [kL]; exact tr_len kR
  have hL : undoL ts ls = diffF (bhL ts ls) ts := by rw [undoL, if_pos hbe, kL]
  refine cw_skip ?_
  refine ex_then ?_
  refine cw_seq ?_
  refine cw_region ?_
  refine sq_r (ry_move rfl) ?_
  refine sq_r (ry_move rfl) ?_
  refine sq_callC rfl ⟨k2, k1, by omega, by omega⟩ fun x19 hp19 => ?_
  refine sq_r (ry_assign rfl) ?_
  refine sq_r (ry_assign rfl) ?_
  refine sq_nil ?_
  refine ex_then ?_
  refine cw_ret ?_
  refine ex_ret (.inl rfl) (res_2 rfl (rv_tmp rfl) (rv_tmp rfl)) (fun w1 hw => ?_)
  exact ⟨x19, by rw [hbe], trivial, by rw [hL]; exact Keep.mem hw⟩
instance dundo_i {w0 : World} {L : List Ent} {t : Sv} {ts : List Rt} {l : Sv} {ls : List Ch} [ht : HdE w0 L rcells 19 t ts] [hl : HdE w0 L chcells 20 l ls] : FnC Try.prog 41 w0 L [t.val, l.val] (Sv) (fun zz => .tuple #[zz.val, .int .i64 (bhE ts ls)]) (fun zz => own chcells 20 zz (undoL ts ls) :: L) (fun zz => True) (True) := ⟨fun hp w hw => (dundo_c w t ts l ls (ht.h w hw) (hl.h w hw)).mono fun e w' ⟨x, h1, h2, h3⟩ => ⟨x, h1, h2, hw.call h3⟩⟩

end Go.Proofs.Ytldkgicmfbofiaa

/- slices.Concat of routes; two tables put together: walked. -/
namespace Go.Proofs.Ytldkgicmfbofiaa
open Go.Eng Go.Kb
instance plainRtD : Plain Rt := ⟨fun _ => rfl⟩
set_option maxRecDepth 20000 in
theorem growR_c (w : World) (n : Nat)  (hpre : n ≤ 1000000000) : Calls Try.prog 82 #[.slice none 0 0, .int .i64 (n : Nat)] w fun e w' => ∃ zz : Sv, e = .returned (zz.val) ∧ (True) ∧ Mem w [own rcells 19 zz ([] : List Rt)] w' := by
 refine calls_of (args := [_, _]) Try.func82 rfl Try.ntmps82 rfl ?_
 change Cw _ _ _ _ _ [(0, .slice none 0 0), (1, .int .i64 (n : Nat))] []
 refine cw_seq ?_
 refine cw_region ?_
 refine sq_r (ry_assign rfl) ?_
 refine sq_nil ?_
 refine ex_then ?_
 refine cw_seq ?_
 refine cw_seq ?_
 refine cw_region ?_
 refine sq_r (ry_move rfl) ?_
 refine sq_r (ry_int rfl rfl rfl) ?_
 refine sq_nil ?_
 refine ex_then ?_
 refine cw_cond rfl (fun h0 => ?_) (fun h0 => ?_)
 ·
  try simp only [bz0, bz1, bz2, bz3, bz4, bz5, bz6, bz7, bz8, bz9] at h0
  exfalso; omega
 ·
  try simp only [bz0, bz1, bz2, bz3, bz4, bz5, bz6, bz7, bz8, bz9] at h0
  refine cw_skip ?_
  refine ex_then ?_
  refine cw_seq ?_
  refine cw_seq ?_
  refine cw_region ?_
  refine sq_r (ry_move rfl) ?_
  refine sq_r (ry_move rfl) ?_
  refine sq_r (ry_capN rfl) ?_
  refine sq_r (ry_move rfl) ?_
  refine sq_r (ry_len_slice rfl) ?_
  refine sq_r (ry_sub rfl rfl (by omega)) ?_
  refine sq_r (ry_sub rfl rfl (by omega)) ?_
  refine sq_r (ry_assign rfl) ?_
  refine sq_nil ?_
  refine ex_then ?_
  refine cw_seq ?_
  refine cw_region ?_
  refine sq_r (ry_move rfl) ?_
  refine sq_r (ry_int rfl rfl rfl) ?_
  refine sq_nil ?_
  refine ex_then ?_
  refine cw_cond rfl (fun h1 => ?_) (fun h1 => ?_)
  ·
   try simp only [bz0, bz1, bz2, bz3, bz4, bz5, bz6, bz7, bz8, bz9] at h1
   refine cw_region ?_
   refine sq_r (ry_move rfl) ?_
   refine sq_r (ry_move rfl) ?_
   refine sq_r (ry_capN rfl) ?_
   refine sq_r (Ry.to (v' := .slice none 0 0) (ry_subS_hi (s := Sv.none) (h := 0) rfl rfl rfl Sv.none_ok (Nat.le_refl _)) rfl) ?_
   refine sq_r (ry_move rfl) ?_
   refine sq_appendN (enc := rcells) (k := n) (zroute) rfl rfl (by omega) (by omega) (by decide) rfl Try.underlying3 (by omega) (by omega) fun b22 C22 hC22 => ?_
   refine sq_r (ry_move rfl) ?_
   refine sq_r (ry_len_slice rfl) ?_
   refine sq_r (ry_subS_hi (s := ⟨false, b22, 0, n, C22, none⟩) (h := 0) rfl rfl rfl ⟨(fun h => by cases h), hC22, by simp only; omega, fun _ => rfl⟩ (Nat.zero_le _)) ?_
   refine sq_r (ry_assign rfl) ?_
   refine sq_nil ?_
   refine ex_then ?_
   refine cw_seq ?_
   refine cw_region ?_
   refine sq_r (ry_move rfl) ?_
   refine sq_r (ry_assign rfl) ?_
   refine sq_nil ?_
   refine ex_then ?_
   refine cw_ret ?_
   refine ex_ret (.inl rfl) (res_1 rfl (rv_tmp rfl)) (fun w1 hw => ?_)
   refine ⟨Sv.sub ⟨false, b22, 0, n, C22, none⟩ 19 0 0, rfl, trivial, ?_⟩
   have hw2 := Mem.ownTake (i := 0) (k := 0) hw rfl (Nat.zero_le _)
   rw [List.take_zero] at hw2
   exact hw2
  ·
   try simp only [bz0, bz1, bz2, bz3, bz4, bz5, bz6, bz7, bz8, bz9] at h1
   have hn : n = 0 := by omega
   refine cw_skip ?_
   refine ex_then ?_
   refine cw_seq ?_
   refine cw_region ?_
   refine sq_r (ry_move rfl) ?_
   refine sq_r (ry_assign rfl) ?_
   refine sq_nil ?_
   refine ex_then ?_
   refine cw_ret ?_
   refine ex_ret (.inl rfl) (res_1 rfl (rv_tmp rfl)) (fun w1 hw => ?_)
   exact ⟨Sv.none, rfl, trivial, (Keep.mem hw : Mem w [] _).nilOwn rcells 19⟩
instance growR_i {w0 : World} {L : List Ent} {n : Nat}  : FnC Try.prog 82 w0 L [.slice none 0 0, .int .i64 (n : Nat)] (Sv) (fun zz => zz.val) (fun zz => own rcells 19 zz ([] : List Rt) :: L) (fun zz => True) (n ≤ 1000000000) := ⟨fun hp w hw => (growR_c w n  hp).mono fun e w' ⟨x, h1, h2, h3⟩ => ⟨x, h1, h2, hw.call h3⟩⟩
set_option maxRecDepth 20000 in
theorem concatR_c (w : World) (a : Sl (Sl Rt)) (ha : Deep.good (hp w) a) (hpre : (catR a.xs).length ≤ 1000000) : Calls Try.prog 62 #[a.sv.val] w fun e w' => ∃ zz : Sv, e = .returned (zz.val) ∧ (True) ∧ Mem w [own rcells 19 zz (catR a.xs)] w' := by
 have gha : GvD w a := ⟨ha⟩
 have hab := ha.1.bd
 have hfl := catR_le a.xs
 refine calls_of (args := [_]) Try.func62 rfl Try.ntmps62 rfl ?_
 change Cw _ _ _ _ _ [(0, a.sv.val)] []
 refine cw_seq ?_
 refine cw_region ?_
 refine sq_r (ry_assign rfl) ?_
 refine sq_nil ?_
 refine ex_then ?_
 refine cw_seq ?_
 refine cw_region ?_
 refine sq_r (ry_assign rfl) ?_
 refine sq_nil ?_
 refine ex_then ?_
 refine cw_seq ?_
 refine cw_seq ?_
 refine cw_region ?_
 refine sq_r (ry_move rfl) ?_
 refine sq_r (ry_lenH rfl) ?_
 refine sq_r (ry_move rfl) ?_
 refine sq_nil ?_
 refine ex_then ?_
 refine cw_block ?_
 refine cw_loop (X := Nat) (fun zz => [(11, .int .i64 (zz : Nat)), (3, .int .i64 ((catR (a.xs.take zz)).length : Nat)), (0, a.sv.val), (9, a.sv.val), (10, .int .i64 (a.xs.length : Nat))]) (fun zz => []) (fun zz => zz ≤ a.xs.length) (fun zz => a.xs.length - zz) 0 (Nat.zero_le _) (Sub.cons rfl (Sub.cons rfl (Sub.cons rfl (Sub.cons rfl (Sub.cons rfl (Sub.nil _)))))) (fun w hw => Keep.mem hw) ?_
 rintro i hi
 have hf1 := hfl i
 have hf2 := hfl (i + 1)
 refine cw_seq ?_
 refine cw_region ?_
 refine sq_r (ry_int rfl rfl rfl) ?_
 refine sq_nil ?_
 refine ex_then ?_
 refine cw_seq ?_
 refine cw_cond rfl (fun h0 => ?_) (fun h0 => ?_)
 ·
  try simp only [bz0, bz1, bz2, bz3, bz4, bz5, bz6, bz7, bz8, bz9] at h0
  refine cw_skip ?_
  refine ex_then ?_
  refine cw_seq ?_
  refine cw_block ?_
  refine cw_seq ?_
  refine cw_region ?_
  obtain ⟨x, hx⟩ := get_some (xs := a.xs) (i := i) (by omega)
  refine sq_r (ry_idxH rfl rfl i rfl (by omega)) ?_
  refine sq_r (ry_elemcH (j := 0) rfl i hx rfl (by decide)) ?_
  have hfx : (catR (a.xs.take (i + 1))).length = (catR (a.xs.take i)).length + x.xs.length := by rw [catR_snoc hx, List.length_append]
  have mb14 : Mb x _ := ⟨List.mem_of_getElem? hx⟩
  refine sq_r (ry_assign rfl) ?_
  refine sq_nil ?_
  refine ex_then ?_
  refine cw_seq ?_
  refine cw_region ?_
  refine sq_r (ry_move rfl) ?_
  refine sq_r (ry_move rfl) ?_
  refine sq_r (ry_lenH rfl) ?_
  refine sq_r (ry_add rfl rfl (by omega)) ?_
  refine sq_r (ry_assign rfl) ?_
  refine sq_nil ?_
  refine ex_then ?_
  refine cw_seq ?_
  refine cw_region ?_
  refine sq_r (ry_move rfl) ?_
  refine sq_r (ry_int rfl rfl rfl) ?_
  refine sq_nil ?_
  refine ex_then ?_
  refine cw_cond rfl (fun h1 => ?_) (fun h1 => ?_)
  ·
   try simp only [bz0, bz1, bz2, bz3, bz4, bz5, bz6, bz7, bz8, bz9] at h1
   exfalso; omega
  ·
   try simp only [bz0, bz1, bz2, bz3, bz4, bz5, bz6, bz7, bz8, bz9] at h1
   refine cw_skip ?_
   refine ex_block ?_
   refine ex_then ?_
   refine cw_region ?_
   refine sq_r (ry_add rfl rfl (by omega)) ?_
   refine sq_r (ry_move rfl) ?_
   refine sq_nil ?_
   exact ex_again (x := (i)) (i + 1) (by first | omega | (simp only []; omega)) (by first | omega | (simp only []; omega)) (Sub.cons rfl (Sub.cons (look_eq rfl (by rw [catR_snoc hx, List.length_append]; simp)) (Sub.cons rfl (Sub.cons rfl (Sub.cons rfl (Sub.nil _)))))) (fun w hw => Keep.mem hw)
 ·
  try simp only [bz0, bz1, bz2, bz3, bz4, bz5, bz6, bz7, bz8, bz9] at h0
  obtain rfl : i = a.xs.length := by omega
  have hf0 := hfl a.xs.length
  refine cw_exit ?_
  refine ex_pass_exit ?_
  refine ex_pass_exit ?_
  refine ex_block_hit ?_
  refine ex_then ?_
  refine cw_seq ?_
  refine cw_region ?_
  refine sq_r (ry_move rfl) ?_
  refine sq_callC rfl (by omega) fun x24 hp24 => ?_
  refine sq_r (ry_assign rfl) ?_
  refine sq_nil ?_
  refine ex_then ?_
  refine cw_seq ?_
  refine cw_seq ?_
  refine cw_region ?_
  refine sq_r (ry_move rfl) ?_
  refine sq_r (ry_lenH rfl) ?_
  refine sq_r (ry_move rfl) ?_
  refine sq_nil ?_
  refine ex_then ?_
  refine cw_block ?_
  refine cw_loop (X := Nat × Sv) (fun zz => [(27, .int .i64 (zz.1 : Nat)), (6, zz.2.val), (25, a.sv.val), (26, .int .i64 (a.xs.length : Nat))]) (fun zz => [own rcells 19 zz.2 (catR (a.xs.take zz.1))]) (fun zz => zz.1 ≤ a.xs.length) (fun zz => a.xs.length - zz.1) (0, x24) (Nat.zero_le _) (Sub.cons rfl (Sub.cons rfl (Sub.cons rfl (Sub.cons rfl (Sub.nil _))))) (fun w hw => (Keep.mem hw : Mem _ [own rcells 19 x24 ([] : List Rt)] _)) ?_
  rintro ⟨k, s1⟩ hk
  dsimp only
  simp only at hk
  have hf1 := hfl k
  have hf2 := hfl (k + 1)
  refine cw_seq ?_
  refine cw_region ?_
  refine sq_r (ry_int rfl rfl rfl) ?_
  refine sq_nil ?_
  refine ex_then ?_
  refine cw_seq ?_
  refine cw_cond rfl (fun h2 => ?_) (fun h2 => ?_)
  ·
   try simp only [bz0, bz1, bz2, bz3, bz4, bz5, bz6, bz7, bz8, bz9] at h2
   refine cw_skip ?_
   refine ex_then ?_
   refine cw_seq ?_
   refine cw_block ?_
   refine cw_seq ?_
   refine cw_region ?_
   obtain ⟨y, hy⟩ := get_some (xs := a.xs) (i := k) (by omega)
   refine sq_r (ry_idxH rfl rfl k rfl (by omega)) ?_
   refine sq_r (ry_elemcH (j := 0) rfl k hy rfl (by decide)) ?_
   have hfy : (catR (a.xs.take (k + 1))).length = (catR (a.xs.take k)).length + y.xs.length := by rw [catR_snoc hy, List.length_append]
   have mb30 : Mb y _ := ⟨List.mem_of_getElem? hy⟩
   refine sq_r (ry_assign rfl) ?_
   refine sq_nil ?_
   refine ex_then ?_
   refine cw_region ?_
   refine sq_r (ry_move rfl) ?_
   refine sq_r (ry_move rfl) ?_
   refine sq_append (s := s1) (ys := y.xs) rfl rfl (by decide) (fun w hw => src_rows (s := y.sv) Try.underlying22 (by decide) ((inferInstance : Hd _ _ y.sv rcells 19 y.xs).h w hw)) (by omega) (by omega) fun s33 hs33 hl33 => ?_
   refine sq_r (ry_assign rfl) ?_
   refine sq_nil ?_
   refine ex_block ?_
   refine ex_then ?_
   refine cw_region ?_
   refine sq_r (ry_add rfl rfl (by omega)) ?_
   refine sq_r (ry_move rfl) ?_
   refine sq_nil ?_
   exact ex_again (x := (k, s1)) (k + 1, s33) (by simp only; omega) (by simp only; omega) (Sub.cons rfl (Sub.cons rfl (Sub.cons rfl (Sub.cons rfl (Sub.nil _))))) (fun w hw => by rw [catR_snoc hy]; exact Keep.mem hw)
  ·
   try simp only [bz0, bz1, bz2, bz3, bz4, bz5, bz6, bz7, bz8, bz9] at h2
   obtain rfl : k = a.xs.length := by omega
   refine cw_exit ?_
   refine ex_pass_exit ?_
   refine ex_pass_exit ?_
   refine ex_block_hit ?_
   refine ex_then ?_
   refine cw_seq ?_
   refine cw_region ?_
   refine sq_r (ry_move rfl) ?_
   refine sq_r (ry_assign rfl) ?_
   refine sq_nil ?_
   refine ex_then ?_
   refine cw_ret ?_
   refine ex_ret (.inl rfl) (res_1 rfl (rv_tmp rfl)) (fun w1 hw => ?_)
   exact ⟨s1, rfl, trivial, by rw [List.take_length] at hw; exact Keep.mem hw⟩
instance concatR_i {w0 : World} {L : List Ent} {a : Sl (Sl Rt)} [ha : HdD w0 L a] : FnC Try.prog 62 w0 L [a.sv.val] (Sv) (fun zz => zz.val) (fun zz => own rcells 19 zz (catR a.xs) :: L) (fun zz => True) ((catR a.xs).length ≤ 1000000) := ⟨fun hp w hw => (concatR_c w a (ha.h w hw) hp).mono fun e w' ⟨x, h1, h2, h3⟩ => ⟨x, h1, h2, hw.call h3⟩⟩
set_option maxRecDepth 20000 in
theorem dboth_c (w : World) (t : Sv) (ts : List Rt) (u : Sv) (us : List Rt) (v : Sv) (vs : List Rt) (ht : Lies rcells 19 (hp w) t ts) (hu : Lies rcells 19 (hp w) u us) (hv : Lies rcells 19 (hp w) v vs) : Calls Try.prog 33 #[t.val, u.val, v.val] w fun e w' => ∃ zz : Sv × Sv, e = .returned (.tuple #[zz.1.val, zz.2.val, .int .i64 (bothE ts us vs)]) ∧ (True) ∧ Mem w [own rcells 19 zz.1 (bothL ts us vs), own pcells 18 zz.2 (bothK ts us vs)] w' := by
 have ght : Gv w t rcells 19 ts := ⟨ht⟩
 have ghu : Gv w u rcells 19 us := ⟨hu⟩
 have ghv : Gv w v rcells 19 vs := ⟨hv⟩
 refine calls_of (args := [_, _, _]) Try.func33 rfl Try.ntmps33 rfl ?_
 change Cw _ _ _ _ _ [(0, t.val), (1, u.val), (2, v.val)] []
 refine cw_seq ?_
 refine cw_region ?_
 refine sq_r (ry_assign rfl) ?_
 refine sq_r (ry_assign rfl) ?_
 refine sq_r (ry_assign rfl) ?_
 refine sq_nil ?_
 refine ex_then ?_
 refine cw_seq ?_
 refine cw_seq ?_
 refine cw_region ?_
 refine sq_r (ry_move rfl) ?_
 refine sq_y (yl_callC rfl trivial) ?_
 refine sq_r (ry_not rfl) ?_
 refine sq_r (ry_move rfl) ?_
 refine sq_gf rfl rfl rfl (fun hg => (Ry.yl (ry_move rfl))) ?_
 refine sq_gf rfl rfl rfl (fun hg => yl_callC (evl_cons (ev_c hg rfl) evl_nil) trivial) ?_
 refine sq_gf rfl rfl rfl (fun hg => (Ry.yl (ry_not (ev_c hg rfl)))) ?_
 refine sq_r (ry_or rfl rfl rfl) ?_
 refine sq_r (ry_move rfl) ?_
 refine sq_gf rfl rfl rfl (fun hg => (Ry.yl (ry_move rfl))) ?_
 refine sq_gf rfl rfl rfl (fun hg => yl_callC (evl_cons (ev_c hg rfl) evl_nil) trivial) ?_
 refine sq_gf rfl rfl rfl (fun hg => (Ry.yl (ry_not (ev_c hg rfl)))) ?_
 refine sq_r (ry_or rfl rfl rfl) ?_
 refine sq_nil ?_
 refine ex_then ?_
 refine cw_cond rfl (fun h0 => ?_) (fun h0 => ?_)
 ·
  try simp only [bz0, bz1, bz2, bz3, bz4, bz5, bz6, bz7, bz8, bz9] at h0
  obtain ⟨hE, hL, hK⟩ := bothOk_no (t := ts) (a := us) (b := vs) (by rintro ⟨g1, g2, g3⟩; rcases h0 with (h | h) | h <;> simp_all)
  refine cw_seq ?_
  refine cw_region ?_
  refine sq_r (ry_assign rfl) ?_
  refine sq_r (ry_assign rfl) ?_
  refine sq_r (ry_assign rfl) ?_
  refine sq_nil ?_
  refine ex_then ?_
  refine cw_ret ?_
  refine ex_pass_ret ?_
  refine ex_ret (.inl rfl) (res_3 rfl (rv_tmp rfl) (rv_tmp rfl) (rv_tmp rfl)) (fun w1 hw => ?_)
  exact ⟨(Sv.none, Sv.none), by rw [hE]; rfl, trivial, by rw [hL, hK]; exact ((Keep.mem hw : Mem w [] _).nilOwn pcells 18).nilOwn rcells 19⟩
 ·
  try simp only [bz0, bz1, bz2, bz3, bz4, bz5, bz6, bz7, bz8, bz9] at h0
  obtain ⟨⟨k1, k2⟩, k3⟩ := h0
  have l1 := tr_len k1
  have l2 := tr_len k2
  have l3 := tr_len k3
  have hst := tsort_ok (ts ++ us ++ vs)
  have hsl := tsort_len (ts ++ us ++ vs)
  simp only [List.length_append] at hsl
  refine cw_skip ?_
  refine ex_then ?_
  refine cw_seq ?_
  refine cw_region ?_
  refine sq_r (ry_assign rfl) ?_
  refine sq_nil ?_
  refine ex_then ?_
  refine cw_seq ?_
  refine cw_region ?_
  refine sq_r (ry_assign rfl) ?_
  refine sq_nil ?_
  refine ex_then ?_
  refine cw_seq ?_
  refine cw_seq ?_
  refine cw_region ?_
  refine sq_r (ry_move rfl) ?_
  refine sq_r (ry_move rfl) ?_
  refine sq_r (ry_move rfl) ?_
  refine sq_buildSlice (enc := (scells (τ := Rt))) [(⟨t, ts⟩ : Sl Rt), ⟨u, us⟩, ⟨v, vs⟩] (vals := [t.val, u.val, v.val]) rfl (by simp only [List.map_cons, List.map_nil, Sv.cells_val]; rfl) rfl (by decide) (by decide) fun b34 => ?_
  refine sq_nameD (τ := Sl Rt) (xs := [(⟨t, ts⟩ : Sl Rt), ⟨u, us⟩, ⟨v, vs⟩]) fun a34 h34 g34 => ?_
  have hf34 : catR a34.xs = ts ++ us ++ vs := by rw [h34]; simp [catR]
  refine sq_callC rfl (by rw [hf34]; simp only [List.length_append]; omega) fun x35 hp35 => ?_
  rw [hf34]
  refine sq_callC rfl (by simp only [List.length_append]; omega) fun x36 hp36 => ?_
  refine sq_r (ry_lenH rfl) ?_
  refine sq_r (ry_move rfl) ?_
  refine sq_nil ?_
  refine ex_then ?_
  refine cw_block ?_
  refine cw_loop (X := Nat × Sv × List Rt × Sv × List Pfx) (fun zz => [(38, .int .i64 (zz.1 : Nat)), (9, zz.2.1.val), (10, zz.2.2.2.1.val), (0, t.val), (1, u.val), (2, v.val), (36, x36.val), (37, .int .i64 ((tsortF (ts ++ us ++ vs)).length : Nat))]) (fun zz => [own rcells 19 zz.2.1 zz.2.2.1, own pcells 18 zz.2.2.2.1 zz.2.2.2.2, own rcells 19 x36 (tsortF (ts ++ us ++ vs))]) (fun zz => zz.1 ≤ (tsortF (ts ++ us ++ vs)).length ∧ zz.2.2.1 = outF ts us vs ((tsortF (ts ++ us ++ vs)).take zz.1) ∧ zz.2.2.2.2 = tornF ts us vs ((tsortF (ts ++ us ++ vs)).take zz.1)) (fun zz => (tsortF (ts ++ us ++ vs)).length - zz.1) (0, Sv.none, [], Sv.none, []) ⟨Nat.zero_le _, rfl, rfl⟩ (Sub.cons rfl (Sub.cons rfl (Sub.cons rfl (Sub.cons rfl (Sub.cons rfl (Sub.cons rfl (Sub.cons rfl (Sub.cons rfl (Sub.nil _))))))))) (fun w hw => Mem.nilOwn rcells 19 (Mem.nilOwn pcells 18 (Keep.mem hw))) ?_
  rintro ⟨i, o, q, o2, q2⟩ ⟨hi1, hi2, hi3⟩
  dsimp only
  simp only at hi1 hi2 hi3
  have hql : q.length ≤ i := by rw [hi2]; exact Nat.le_trans out_len (by rw [List.length_take]; omega)
  have hql2 : q2.length ≤ i := by rw [hi3]; exact Nat.le_trans torn_len (by rw [List.length_take]; omega)
  refine cw_seq ?_
  refine cw_region ?_
  refine sq_r (ry_int rfl rfl rfl) ?_
  refine sq_nil ?_
  refine ex_then ?_
  refine cw_seq ?_
  refine cw_cond rfl (fun h1 => ?_) (fun h1 => ?_)
  ·
   try simp only [bz0, bz1, bz2, bz3, bz4, bz5, bz6, bz7, bz8, bz9] at h1
   refine cw_skip ?_
   refine ex_then ?_
   refine cw_seq ?_
   refine cw_block ?_
   refine cw_seq ?_
   refine cw_region ?_
   obtain ⟨r, hr⟩ := get_some (xs := (tsortF (ts ++ us ++ vs))) (i := i) (by omega)
   refine sq_r (ry_idxH rfl rfl i rfl (by omega)) ?_
   refine sq_r (ry_elemH rfl i hr rfl) ?_
   refine sq_allocA fun b12 => ?_
   refine sq_storeW rfl rfl ?_
   refine sq_nil ?_
   refine ex_then ?_
   refine cw_seq ?_
   have hrm : pmay r.p = true := hst.1.may r (List.mem_of_getElem? hr)
   refine cw_region ?_
   refine sq_r (ry_field (o' := 0) rfl rfl) ?_
   refine sq_r (ry_part rfl) ?_
   refine sq_allocA fun b13 => ?_
   refine sq_storeW rfl rfl ?_
   refine sq_nil ?_
   refine ex_then ?_
   refine cw_seq ?_
   refine cw_lin2 [9, 10, 11, 12, 13, 14, 2009, 2010, 2011] [[], [], [], [], [], [], [], [], [], [], [], [], [9, 10, 11], [9, 10, 11, 12], [9, 10, 11, 12, 13]] [0, 1, 2, 3, 4, 5, 6, 7, 8, 9, 10, 11, 12, 13, 14] [blk b13 (pcells r.p) 26] [9, 10, 11] (.cons rfl inferInstance (.cons rfl inferInstance (.cons rfl inferInstance .nil))) (by kernel_rfl) (fun _ hw => Keep.mem hw) (by kernel_rfl) (by kernel_rfl) ?_
   refine ln_r rfl (ry_move rfl) ?_
   refine ln_r rfl (ry_whole rfl) ?_
   refine ln_y rfl (yl_callC rfl ⟨by assumption, by assumption⟩) ?_
   refine ln_r rfl (ry_move rfl) ?_
   refine ln_r rfl (ry_whole rfl) ?_
   refine ln_y rfl (yl_callC rfl ⟨by assumption, by assumption⟩) ?_
   refine ln_r rfl (ry_move rfl) ?_
   refine ln_r rfl (ry_whole rfl) ?_
   refine ln_y rfl (yl_callC rfl ⟨by assumption, by assumption⟩) ?_
   refine ln_alA rfl fun b14 => ?_
   refine ln_alA rfl fun b15 => ?_
   refine ln_alA rfl fun b16 => ?_
   refine ln_st rfl (st_storeW rfl rfl ⟨fun _ hw => Keep.mem hw, ?_⟩)
   refine ln_st rfl (st_storeW rfl rfl ⟨fun _ hw => Keep.mem hw, ?_⟩)
   refine ln_st rfl (st_storeW rfl rfl ⟨fun _ hw => Keep.mem hw, ?_⟩)
   refine ln_nil ?_
   refine ex_then ?_
   refine cw_seq ?_
   refine cw_region ?_
   refine sq_r (ry_whole rfl) ?_
   refine sq_allocA fun b17 => ?_
   refine sq_storeW rfl rfl ?_
   refine sq_nil ?_
   refine ex_then ?_
   refine cw_cut (X := Ld × Sv × List Pfx) (fun zz => [(17, .pointer (some ⟨b17, 0, none⟩)), (10, zz.2.1.val), (0, t.val), (1, u.val), (2, v.val), (9, o.val), (13, .pointer (some ⟨b13, 0, none⟩)), (36, x36.val), (37, .int .i64 ((tsortF (ts ++ us ++ vs)).length : Nat)), (38, .int .i64 (i : Nat))]) (fun zz => [blk b17 (ldcells zz.1) 93, own pcells 18 zz.2.1 zz.2.2, own rcells 19 o q, blk b13 (pcells r.p) 26, own rcells 19 x36 (tsortF (ts ++ us ++ vs))]) (fun zz => zz.1 = ldO (useP ts us vs r.p) ∧ zz.2.2 = tornF ts us vs ((tsortF (ts ++ us ++ vs)).take (i + 1))) ?_ ?_
   ·
    refine cw_block ?_
    refine cw_seq ?_
    refine cw_region ?_
    refine sq_r (ry_whole rfl) ?_
    refine sq_r (ry_whole rfl) ?_
    refine sq_r (ry_eq rfl rfl) ?_
    refine sq_r (ry_assign rfl) ?_
    refine sq_nil ?_
    refine ex_then ?_
    refine cw_cond rfl (fun h2 => ?_) (fun h2 => ?_)
    ·
     try simp only [bz0, bz1, bz2, bz3, bz4, bz5, bz6, bz7, bz8, bz9] at h2
     obtain ⟨m1, m2⟩ := use_yes (b := vs) (ldO_inj.1 h2)
     refine cw_region ?_
     refine sq_r (ry_whole rfl) ?_
     refine sq_storeW rfl rfl ?_
     refine sq_nil ?_
     refine ex_block ?_
     exact ex_meet (ldO (hopO vs r.p), o2, q2) ⟨by rw [m1], by rw [torn_take hr, ← hi3, m2]; simp⟩ (Sub.cons rfl (Sub.cons rfl (Sub.cons rfl (Sub.cons rfl (Sub.cons rfl (Sub.cons rfl (Sub.cons rfl (Sub.cons rfl (Sub.cons rfl (Sub.cons rfl (Sub.nil _))))))))))) (fun w hw => Keep.mem hw)
    ·
     try simp only [bz0, bz1, bz2, bz3, bz4, bz5, bz6, bz7, bz8, bz9] at h2
     have h2n : ¬ hopO us r.p = hopO ts r.p := fun e => h2 (ldO_inj.2 e)
     refine cw_seq ?_
     refine cw_region ?_
     refine sq_r (ry_whole rfl) ?_
     refine sq_r (ry_whole rfl) ?_
     refine sq_r (ry_ne rfl rfl) ?_
     refine sq_r (ry_move rfl) ?_
     refine sq_gt rfl rfl rfl (fun hg => (Ry.yl (ry_whole rfl))) ?_
     refine sq_gt rfl rfl rfl (fun hg => (Ry.yl (ry_whole rfl))) ?_
     refine sq_gt rfl rfl rfl (fun hg => (Ry.yl (ry_ne (ev_c hg rfl) (ev_c hg rfl)))) ?_
     refine sq_r (ry_and rfl rfl rfl) ?_
     refine sq_r (ry_assign rfl) ?_
     refine sq_nil ?_
     refine ex_then ?_
     refine cw_cond rfl (fun h3 => ?_) (fun h3 => ?_)
     ·
      try simp only [bz0, bz1, bz2, bz3, bz4, bz5, bz6, bz7, bz8, bz9] at h3
      obtain ⟨m1, m2⟩ := use_torn (b := vs) h2n ⟨fun e => h3.1 (ldO_inj.2 e), fun e => h3.2 (ldO_inj.2 e)⟩
      refine cw_region ?_
      refine sq_r (ry_move rfl) ?_
      refine sq_r (ry_whole rfl) ?_
      refine sq_buildSlice (enc := pcells) (vals := [_]) [r.p] rfl rfl rfl (by decide) (by decide) fun b70 => ?_
      refine sq_append (s := o2) (ys := [r.p]) rfl rfl (by decide) (fun w hw => src_rows (s := ⟨false, b70, 0, 1, 1, none⟩) Try.underlying62 (by decide) ((inferInstance : Hd _ _ ⟨false, b70, 0, 1, 1, none⟩ pcells 18 [r.p]).h w hw)) (by simp only [List.length_append, List.length_cons, List.length_nil]; omega) (by simp only [List.length_append, List.length_cons, List.length_nil]; omega) fun s71 hs71 hl71 => ?_
      refine sq_r (ry_assign rfl) ?_
      refine sq_nil ?_
      refine ex_block ?_
      exact ex_meet (ldO (hopO us r.p), s71, q2 ++ [r.p]) ⟨by rw [m1], by rw [torn_take hr, ← hi3, m2]; rfl⟩ (Sub.cons rfl (Sub.cons rfl (Sub.cons rfl (Sub.cons rfl (Sub.cons rfl (Sub.cons rfl (Sub.cons rfl (Sub.cons rfl (Sub.cons rfl (Sub.cons rfl (Sub.nil _))))))))))) (fun w hw => Keep.mem hw)
     ·
      try simp only [bz0, bz1, bz2, bz3, bz4, bz5, bz6, bz7, bz8, bz9] at h3
      obtain ⟨m1, m2⟩ := use_no (b := vs) h2n (h3.imp ldO_inj.1 ldO_inj.1)
      refine cw_skip ?_
      refine ex_block ?_
      exact ex_meet (ldO (hopO us r.p), o2, q2) ⟨by rw [m1], by rw [torn_take hr, ← hi3, m2]; simp⟩ (Sub.cons rfl (Sub.cons rfl (Sub.cons rfl (Sub.cons rfl (Sub.cons rfl (Sub.cons rfl (Sub.cons rfl (Sub.cons rfl (Sub.cons rfl (Sub.cons rfl (Sub.nil _))))))))))) (fun w hw => Keep.mem hw)
   ·
    rintro ⟨d, o3, q3⟩ ⟨hd, hq3⟩
    dsimp only
    simp only at hd hq3
    have hql3 : q3.length ≤ i + 1 := by rw [hq3]; exact Nat.le_trans torn_len (by rw [List.length_take]; omega)
    refine cw_seq ?_
    refine cw_region ?_
    refine sq_r (ry_field (o' := 0) rfl rfl) ?_
    refine sq_r (ry_cellc rfl) ?_
    refine sq_nil ?_
    refine ex_then ?_
    refine cw_cond rfl (fun h4 => ?_) (fun h4 => ?_)
    ·
     try simp only [bz0, bz1, bz2, bz3, bz4, bz5, bz6, bz7, bz8, bz9] at h4
     have hu4 : useP ts us vs r.p = some d.hop := by rw [hd]; exact ld_yes (by rw [← hd]; exact h4)
     refine cw_region ?_
     refine sq_r (ry_move rfl) ?_
     refine sq_r (ry_whole rfl) ?_
     refine sq_r (ry_field (o' := 1) rfl rfl) ?_
     refine sq_r (ry_cellc rfl) ?_
     refine sq_r (ry_buildc rfl) ?_
     refine sq_buildSlice (enc := rcells) (vals := [_]) [(⟨r.p, d.hop⟩ : Rt)] rfl rfl rfl (by decide) (by decide) fun b79 => ?_
     refine sq_append (s := o) (ys := [(⟨r.p, d.hop⟩ : Rt)]) rfl rfl (by decide) (fun w hw => src_rows (s := ⟨false, b79, 0, 1, 1, none⟩) Try.underlying22 (by decide) ((inferInstance : Hd _ _ ⟨false, b79, 0, 1, 1, none⟩ rcells 19 [(⟨r.p, d.hop⟩ : Rt)]).h w hw)) (by simp only [List.length_append, List.length_cons, List.length_nil]; omega) (by simp only [List.length_append, List.length_cons, List.length_nil]; omega) fun s80 hs80 hl80 => ?_
     refine sq_r (ry_assign rfl) ?_
     refine sq_nil ?_
     refine ex_block ?_
     refine ex_then ?_
     refine cw_region ?_
     refine sq_r (ry_add rfl rfl (by omega)) ?_
     refine sq_r (ry_move rfl) ?_
     refine sq_nil ?_
     exact ex_again (x := (i, o, q, o2, q2)) (i + 1, s80, q ++ [⟨r.p, d.hop⟩], o3, q3) ⟨by first | omega | (simp only []; omega), by rw [out_take hr, ← hi2, hu4]; rfl, hq3⟩ (by simp only; omega) (Sub.cons rfl (Sub.cons rfl (Sub.cons rfl (Sub.cons rfl (Sub.cons rfl (Sub.cons rfl (Sub.cons rfl (Sub.cons rfl (Sub.nil _))))))))) (fun w hw => Keep.mem hw)
    ·
     try simp only [bz0, bz1, bz2, bz3, bz4, bz5, bz6, bz7, bz8, bz9] at h4
     have hu4 : useP ts us vs r.p = none := ld_no (by rw [← hd]; exact h4)
     refine cw_skip ?_
     refine ex_block ?_
     refine ex_then ?_
     refine cw_region ?_
     refine sq_r (ry_add rfl rfl (by omega)) ?_
     refine sq_r (ry_move rfl) ?_
     refine sq_nil ?_
     exact ex_again (x := (i, o, q, o2, q2)) (i + 1, o, q, o3, q3) ⟨by first | omega | (simp only []; omega), by rw [out_take hr, ← hi2, hu4]; simp, hq3⟩ (by simp only; omega) (Sub.cons rfl (Sub.cons rfl (Sub.cons rfl (Sub.cons rfl (Sub.cons rfl (Sub.cons rfl (Sub.cons rfl (Sub.cons rfl (Sub.nil _))))))))) (fun w hw => Keep.mem hw)
  ·
   try simp only [bz0, bz1, bz2, bz3, bz4, bz5, bz6, bz7, bz8, bz9] at h1
   obtain rfl : i = (tsortF (ts ++ us ++ vs)).length := by omega
   rw [List.take_length] at hi2 hi3
   have hbo : q = bothO ts us vs := hi2
   have hbt : q2 = bothT ts us vs := hi3
   refine cw_exit ?_
   refine ex_pass_exit ?_
   refine ex_pass_exit ?_
   refine ex_block_hit ?_
   refine ex_then ?_
   refine cw_seq ?_
   refine cw_seq ?_
   refine cw_region ?_
   refine sq_r (ry_move rfl) ?_
   refine sq_r (ry_lenH rfl) ?_
   refine sq_r (ry_int rfl rfl rfl) ?_
   refine sq_nil ?_
   refine ex_then ?_
   refine cw_cond rfl (fun h5 => ?_) (fun h5 => ?_)
   ·
    try simp only [bz0, bz1, bz2, bz3, bz4, bz5, bz6, bz7, bz8, bz9] at h5
    obtain ⟨hE, hL, hK⟩ := both_full k1 k2 k3 (by rw [← hbo]; omega)
    refine cw_seq ?_
    refine cw_region ?_
    refine sq_r (ry_assign rfl) ?_
    refine sq_r (ry_assign rfl) ?_
    refine sq_r (ry_assign rfl) ?_
    refine sq_nil ?_
    refine ex_then ?_
    refine cw_ret ?_
    refine ex_pass_ret ?_
    refine ex_ret (.inl rfl) (res_3 rfl (rv_tmp rfl) (rv_tmp rfl) (rv_tmp rfl)) (fun w1 hw => ?_)
    exact ⟨(Sv.none, Sv.none), by rw [hE]; rfl, trivial, by rw [hL, hK]; exact ((Keep.mem hw : Mem w [] _).nilOwn pcells 18).nilOwn rcells 19⟩
   ·
    try simp only [bz0, bz1, bz2, bz3, bz4, bz5, bz6, bz7, bz8, bz9] at h5
    obtain ⟨hE, hL, hK⟩ := both_fine k1 k2 k3 (by rw [← hbo]; omega)
    refine cw_skip ?_
    refine ex_then ?_
    refine cw_seq ?_
    refine cw_region ?_
    refine sq_r (ry_move rfl) ?_
    refine sq_r (ry_move rfl) ?_
    refine sq_r (ry_assign rfl) ?_
    refine sq_r (ry_assign rfl) ?_
    refine sq_r (ry_assign rfl) ?_
    refine sq_nil ?_
    refine ex_then ?_
    refine cw_ret ?_
    refine ex_ret (.inl rfl) (res_3 rfl (rv_tmp rfl) (rv_tmp rfl) (rv_tmp rfl)) (fun w1 hw => ?_)
    exact ⟨(o, o2), by rw [hE], trivial, by rw [hL, hK, ← hbo, ← hbt]; exact Keep.mem hw⟩
instance dboth_i {w0 : World} {L : List Ent} {t : Sv} {ts : List Rt} {u : Sv} {us : List Rt} {v : Sv} {vs : List Rt} [ht : HdE w0 L rcells 19 t ts] [hu : HdE w0 L rcells 19 u us] [hv : HdE w0 L rcells 19 v vs] : FnC Try.prog 33 w0 L [t.val, u.val, v.val] (Sv × Sv) (fun zz => .tuple #[zz.1.val, zz.2.val, .int .i64 (bothE ts us vs)]) (fun zz => own rcells 19 zz.1 (bothL ts us vs) :: own pcells 18 zz.2 (bothK ts us vs) :: L) (fun zz => True) (True) := ⟨fun hp w hw => (dboth_c w t ts u us v vs (ht.h w hw) (hu.h w hw) (hv.h w hw)).mono fun e w' ⟨x, h1, h2, h3⟩ => ⟨x, h1, h2, hw.call h3⟩⟩

end Go.Proofs.Ytldkgicmfbofiaa

/- The reference puts two tables together: walked. -/
namespace Go.Proofs.Ytldkgicmfbofiaa
open Go.Eng Go.Kb
set_option maxRecDepth 20000 in
theorem r18both_c (w : World) (t : Sv) (ts : List Rt) (u : Sv) (us : List Rt) (v : Sv) (vs : List Rt) (ht : Lies rcells 19 (hp w) t ts) (hu : Lies rcells 19 (hp w) u us) (hv : Lies rcells 19 (hp w) v vs) (hpre : tright ts = true ∧ tright us = true ∧ tright vs = true) : Calls Try.prog 42 #[t.val, u.val, v.val] w fun e w' => ∃ zz : Sv × Sv, e = .returned (.tuple #[zz.1.val, zz.2.val, .int .i64 (bothE ts us vs)]) ∧ (True) ∧ Mem w [own rcells 19 zz.1 (bothL ts us vs), own pcells 18 zz.2 (bothK ts us vs)] w' := by
 have ght : Gv w t rcells 19 ts := ⟨ht⟩
 have ghu : Gv w u rcells 19 us := ⟨hu⟩
 have ghv : Gv w v rcells 19 vs := ⟨hv⟩
 obtain ⟨k1, k2, k3⟩ := hpre
 have l1 := tr_len k1
 have l2 := tr_len k2
 have l3 := tr_len k3
 have hst := rsort_ok (us ++ vs)
 have hsl := rsort_len (us ++ vs)
 simp only [List.length_append] at hsl
 obtain ⟨hbs1, hbs2⟩ := both_same (right_ord k1) (right_ord k2) (right_ord k3)
 refine calls_of (args := [_, _, _]) Try.func42 rfl Try.ntmps42 rfl ?_
 change Cw _ _ _ _ _ [(0, t.val), (1, u.val), (2, v.val)] []
 refine cw_seq ?_
 refine cw_region ?_
 refine sq_r (ry_assign rfl) ?_
 refine sq_r (ry_assign rfl) ?_
 refine sq_r (ry_assign rfl) ?_
 refine sq_nil ?_
 refine ex_then ?_
 refine cw_seq ?_
 refine cw_region ?_
 refine sq_r (ry_assign rfl) ?_
 refine sq_nil ?_
 refine ex_then ?_
 refine cw_seq ?_
 refine cw_region ?_
 refine sq_r (ry_assign rfl) ?_
 refine sq_nil ?_
 refine ex_then ?_
 refine cw_seq ?_
 refine cw_region ?_
 refine sq_build0 rcells fun b18 => ?_
 refine sq_r (ry_move rfl) ?_
 refine sq_append (s := ⟨false, b18, 0, 0, 0, none⟩) (ys := us) rfl rfl (by decide) (fun w hw => src_rows (s := u) Try.underlying22 (by decide) ((inferInstance : Hd _ _ u rcells 19 us).h w hw)) (by simp only [List.length_nil]; omega) (by simp only [List.length_nil]; omega) fun s20 hs20 hl20 => ?_
 refine sq_r (ry_move rfl) ?_
 refine sq_append (s := s20) (ys := vs) rfl rfl (by decide) (fun w hw => src_rows (s := v) Try.underlying22 (by decide) ((inferInstance : Hd _ _ v rcells 19 vs).h w hw)) (by simp only [List.length_append, List.length_nil]; omega) (by simp only [List.length_append, List.length_nil]; omega) fun s22 hs22 hl22 => ?_
 simp only [List.nil_append]
 refine sq_callC rfl (by simp only [List.length_append]; omega) fun x23 hp23 => ?_
 refine sq_r (ry_assign rfl) ?_
 refine sq_nil ?_
 refine ex_then ?_
 refine cw_seq ?_
 refine cw_seq ?_
 refine cw_region ?_
 refine sq_r (ry_assign rfl) ?_
 refine sq_nil ?_
 refine ex_then ?_
 refine cw_block ?_
 refine cw_loop (X := Nat × Sv × List Rt × Sv × List Pfx) (fun zz => [(12, .int .i64 (zz.1 : Nat)), (9, zz.2.1.val), (10, zz.2.2.2.1.val), (0, t.val), (1, u.val), (2, v.val), (11, x23.val)]) (fun zz => [own rcells 19 zz.2.1 zz.2.2.1, own pcells 18 zz.2.2.2.1 zz.2.2.2.2, own rcells 19 x23 (rsortF (us ++ vs))]) (fun zz => zz.1 ≤ (rsortF (us ++ vs)).length ∧ zz.2.2.1 = outF ts us vs ((rsortF (us ++ vs)).take zz.1) ∧ zz.2.2.2.2 = tornF ts us vs ((rsortF (us ++ vs)).take zz.1)) (fun zz => (rsortF (us ++ vs)).length - zz.1) (0, Sv.none, [], Sv.none, []) ⟨Nat.zero_le _, rfl, rfl⟩ (Sub.cons rfl (Sub.cons rfl (Sub.cons rfl (Sub.cons rfl (Sub.cons rfl (Sub.cons rfl (Sub.cons rfl (Sub.nil _)))))))) (fun w hw => Mem.nilOwn rcells 19 (Mem.nilOwn pcells 18 (Keep.mem hw))) ?_
 rintro ⟨i, o, q, o2, q2⟩ ⟨hi1, hi2, hi3⟩
 dsimp only
 simp only at hi1 hi2 hi3
 have hql : q.length ≤ i := by rw [hi2]; exact Nat.le_trans out_len (by rw [List.length_take]; omega)
 have hql2 : q2.length ≤ i := by rw [hi3]; exact Nat.le_trans torn_len (by rw [List.length_take]; omega)
 refine cw_seq ?_
 refine cw_seq ?_
 refine cw_region ?_
 refine sq_r (ry_move rfl) ?_
 refine sq_r (ry_move rfl) ?_
 refine sq_r (ry_lenH rfl) ?_
 refine sq_r (ry_int rfl rfl rfl) ?_
 refine sq_nil ?_
 refine ex_then ?_
 refine cw_cond rfl (fun h0 => ?_) (fun h0 => ?_)
 ·
  try simp only [bz0, bz1, bz2, bz3, bz4, bz5, bz6, bz7, bz8, bz9] at h0
  obtain ⟨r, hr⟩ := get_some (xs := (rsortF (us ++ vs))) (i := i) (by omega)
  have hrm : pmay r.p = true := hst.1.may r (List.mem_of_getElem? hr)
  refine cw_skip ?_
  refine ex_then ?_
  refine cw_seq ?_
  refine cw_block ?_
  refine cw_seq ?_
  refine cw_region ?_
  refine sq_r (ry_move rfl) ?_
  refine sq_r (ry_move rfl) ?_
  refine sq_r (ry_idxH rfl rfl i rfl (by omega)) ?_
  refine sq_r (ry_field rfl rfl) ?_
  refine sq_r (ry_elempH (j := 0) rfl i hr rfl (by decide)) ?_
  refine sq_allocA fun b13 => ?_
  refine sq_storeW rfl rfl ?_
  refine sq_nil ?_
  refine ex_then ?_
  refine cw_seq ?_
  refine cw_quiet (by kernel_rfl) (by kernel_rfl) ?_
  refine qt_r (ry_move rfl) ?_
  refine qt_r (ry_whole rfl) ?_
  refine qt_y (yl_callC rfl trivial) ?_
  refine qt_r (ry_move rfl) ?_
  refine qt_r (ry_whole rfl) ?_
  refine qt_y (yl_callC rfl trivial) ?_
  refine qt_r (ry_move rfl) ?_
  refine qt_r (ry_whole rfl) ?_
  refine qt_y (yl_callC rfl trivial) ?_
  refine qt_r (ry_assign rfl) ?_
  refine qt_r (ry_assign rfl) ?_
  refine qt_r (ry_assign rfl) ?_
  refine qt_nil ?_
  refine ex_then ?_
  refine cw_seq ?_
  refine cw_region ?_
  refine sq_r (ry_move rfl) ?_
  refine sq_r (ry_assign rfl) ?_
  refine sq_nil ?_
  refine ex_then ?_
  refine cw_cut (X := Int × Sv × List Pfx) (fun zz => [(17, .int .i64 zz.1), (10, zz.2.1.val), (0, t.val), (1, u.val), (2, v.val), (9, o.val), (11, x23.val), (12, .int .i64 (i : Nat)), (13, .pointer (some ⟨b13, 0, none⟩))]) (fun zz => [own pcells 18 zz.2.1 zz.2.2, own rcells 19 o q, blk b13 (pcells r.p) 26, own rcells 19 x23 (rsortF (us ++ vs))]) (fun zz => zz.1 = hasI (useP ts us vs r.p) ∧ zz.2.2 = tornF ts us vs ((rsortF (us ++ vs)).take (i + 1))) ?_ ?_
  ·
   refine cw_seq ?_
   refine cw_region ?_
   refine sq_r (ry_move rfl) ?_
   refine sq_r (ry_move rfl) ?_
   refine sq_r (ry_int rfl rfl rfl) ?_
   refine sq_nil ?_
   refine ex_then ?_
   refine cw_cond rfl (fun h1 => ?_) (fun h1 => ?_)
   ·
    try simp only [bz0, bz1, bz2, bz3, bz4, bz5, bz6, bz7, bz8, bz9] at h1
    obtain ⟨m1, m2⟩ := use_yes (b := vs) (hasI_inj.1 h1)
    refine cw_region ?_
    refine sq_r (ry_move rfl) ?_
    refine sq_r (ry_assign rfl) ?_
    refine sq_nil ?_
    exact ex_meet (hasI (hopO vs r.p), o2, q2) ⟨by rw [m1], by rw [torn_take hr, ← hi3, m2]; simp⟩ (Sub.cons rfl (Sub.cons rfl (Sub.cons rfl (Sub.cons rfl (Sub.cons rfl (Sub.cons rfl (Sub.cons rfl (Sub.cons rfl (Sub.cons rfl (Sub.nil _)))))))))) (fun w hw => Keep.mem hw)
   ·
    try simp only [bz0, bz1, bz2, bz3, bz4, bz5, bz6, bz7, bz8, bz9] at h1
    have h1n : ¬ hopO us r.p = hopO ts r.p := fun e => h1 (hasI_inj.2 e)
    refine cw_seq ?_
    refine cw_region ?_
    refine sq_r (ry_move rfl) ?_
    refine sq_r (ry_move rfl) ?_
    refine sq_r (ry_int rfl rfl rfl) ?_
    refine sq_r (ry_move rfl) ?_
    refine sq_gt rfl rfl rfl (fun hg => (Ry.yl (ry_move rfl))) ?_
    refine sq_gt rfl rfl rfl (fun hg => (Ry.yl (ry_move rfl))) ?_
    refine sq_gt rfl rfl rfl (fun hg => (Ry.yl (ry_int (ev_c hg rfl) (ev_c hg rfl) rfl))) ?_
    refine sq_r (ry_and rfl rfl rfl) ?_
    refine sq_nil ?_
    refine ex_then ?_
    refine cw_cond rfl (fun h2 => ?_) (fun h2 => ?_)
    ·
     try simp only [bz0, bz1, bz2, bz3, bz4, bz5, bz6, bz7, bz8, bz9] at h2
     obtain ⟨m1, m2⟩ := use_torn (b := vs) h1n ⟨fun e => h2.1 (hasI_inj.2 e), fun e => h2.2 (hasI_inj.2 e)⟩
     refine cw_region ?_
     refine sq_r (ry_move rfl) ?_
     refine sq_r (ry_whole rfl) ?_
     refine sq_buildSlice (enc := pcells) (vals := [_]) [r.p] rfl rfl rfl (by decide) (by decide) fun b59 => ?_
     refine sq_append (s := o2) (ys := [r.p]) rfl rfl (by decide) (fun w hw => src_rows (s := ⟨false, b59, 0, 1, 1, none⟩) Try.underlying62 (by decide) ((inferInstance : Hd _ _ ⟨false, b59, 0, 1, 1, none⟩ pcells 18 [r.p]).h w hw)) (by simp only [List.length_cons, List.length_nil]; omega) (by simp only [List.length_cons, List.length_nil]; omega) fun s60 hs60 hl60 => ?_
     refine sq_r (ry_assign rfl) ?_
     refine sq_nil ?_
     exact ex_meet (hasI (hopO us r.p), s60, q2 ++ [r.p]) ⟨by rw [m1], by rw [torn_take hr, ← hi3, m2]; rfl⟩ (Sub.cons rfl (Sub.cons rfl (Sub.cons rfl (Sub.cons rfl (Sub.cons rfl (Sub.cons rfl (Sub.cons rfl (Sub.cons rfl (Sub.cons rfl (Sub.nil _)))))))))) (fun w hw => Keep.mem hw)
    ·
     try simp only [bz0, bz1, bz2, bz3, bz4, bz5, bz6, bz7, bz8, bz9] at h2
     obtain ⟨m1, m2⟩ := use_no (b := vs) h1n (h2.imp hasI_inj.1 hasI_inj.1)
     refine cw_skip ?_
     exact ex_meet (hasI (hopO us r.p), o2, q2) ⟨by rw [m1], by rw [torn_take hr, ← hi3, m2]; simp⟩ (Sub.cons rfl (Sub.cons rfl (Sub.cons rfl (Sub.cons rfl (Sub.cons rfl (Sub.cons rfl (Sub.cons rfl (Sub.cons rfl (Sub.cons rfl (Sub.nil _)))))))))) (fun w hw => Keep.mem hw)
  ·
   rintro ⟨h, o3, q3⟩ ⟨hd, hq3⟩
   dsimp only
   simp only at hd hq3
   have hql3 : q3.length ≤ i + 1 := by rw [hq3]; exact Nat.le_trans torn_len (by rw [List.length_take]; omega)
   refine cw_seq ?_
   refine cw_region ?_
   refine sq_r (ry_move rfl) ?_
   refine sq_r (ry_int rfl rfl rfl) ?_
   refine sq_nil ?_
   refine ex_then ?_
   refine cw_cond rfl (fun h3 => ?_) (fun h3 => ?_)
   ·
    try simp only [bz0, bz1, bz2, bz3, bz4, bz5, bz6, bz7, bz8, bz9] at h3
    obtain ⟨n, hu3⟩ := Option.ne_none_iff_exists'.1 (hasI_ge.1 (by rw [← hd]; exact h3))
    have hh : h = (n.toNat : Int) := by rw [hd, hu3]; rfl
    have hn := n.toNat_lt
    refine cw_region ?_
    refine sq_r (ry_move rfl) ?_
    refine sq_r (ry_whole rfl) ?_
    refine sq_r (ry_move rfl) ?_
    refine sq_r (Ry.to (v' := .int .u16 (n.toNat : Int)) (ry_convi rfl (by omega) (by simp only [nb]; omega)) (by rw [hh])) ?_
    refine sq_r (ry_buildc rfl) ?_
    refine sq_buildSlice (enc := rcells) (vals := [_]) [(⟨r.p, n⟩ : Rt)] rfl rfl rfl (by decide) (by decide) fun b68 => ?_
    refine sq_append (s := o) (ys := [(⟨r.p, n⟩ : Rt)]) rfl rfl (by decide) (fun w hw => src_rows (s := ⟨false, b68, 0, 1, 1, none⟩) Try.underlying22 (by decide) ((inferInstance : Hd _ _ ⟨false, b68, 0, 1, 1, none⟩ rcells 19 [(⟨r.p, n⟩ : Rt)]).h w hw)) (by simp only [List.length_cons, List.length_nil]; omega) (by simp only [List.length_cons, List.length_nil]; omega) fun s69 hs69 hl69 => ?_
    refine sq_r (ry_assign rfl) ?_
    refine sq_nil ?_
    refine ex_block ?_
    refine ex_then ?_
    refine cw_region ?_
    refine sq_r (ry_move rfl) ?_
    refine sq_r (ry_add rfl rfl (by omega)) ?_
    refine sq_r (ry_assign rfl) ?_
    refine sq_nil ?_
    exact ex_again (x := (i, o, q, o2, q2)) (i + 1, s69, q ++ [⟨r.p, n⟩], o3, q3) ⟨by first | omega | (simp only []; omega), by rw [out_take hr, ← hi2, hu3]; rfl, hq3⟩ (by simp only; omega) (Sub.cons rfl (Sub.cons rfl (Sub.cons rfl (Sub.cons rfl (Sub.cons rfl (Sub.cons rfl (Sub.cons rfl (Sub.nil _)))))))) (fun w hw => Keep.mem hw)
   ·
    try simp only [bz0, bz1, bz2, bz3, bz4, bz5, bz6, bz7, bz8, bz9] at h3
    have hu3 : useP ts us vs r.p = none := Classical.byContradiction fun hc => h3 (by rw [hd]; exact hasI_ge.2 hc)
    refine cw_skip ?_
    refine ex_block ?_
    refine ex_then ?_
    refine cw_region ?_
    refine sq_r (ry_move rfl) ?_
    refine sq_r (ry_add rfl rfl (by omega)) ?_
    refine sq_r (ry_assign rfl) ?_
    refine sq_nil ?_
    exact ex_again (x := (i, o, q, o2, q2)) (i + 1, o, q, o3, q3) ⟨by first | omega | (simp only []; omega), by rw [out_take hr, ← hi2, hu3]; simp, hq3⟩ (by simp only; omega) (Sub.cons rfl (Sub.cons rfl (Sub.cons rfl (Sub.cons rfl (Sub.cons rfl (Sub.cons rfl (Sub.cons rfl (Sub.nil _)))))))) (fun w hw => Keep.mem hw)
 ·
  try simp only [bz0, bz1, bz2, bz3, bz4, bz5, bz6, bz7, bz8, bz9] at h0
  obtain rfl : i = (rsortF (us ++ vs)).length := by omega
  rw [List.take_length] at hi2 hi3
  have hbo : q = bothO ts us vs := hi2.trans hbs1.symm
  have hbt : q2 = bothT ts us vs := hi3.trans hbs2.symm
  refine cw_exit ?_
  refine ex_pass_exit ?_
  refine ex_pass_exit ?_
  refine ex_block_hit ?_
  refine ex_then ?_
  refine cw_seq ?_
  refine cw_seq ?_
  refine cw_region ?_
  refine sq_r (ry_move rfl) ?_
  refine sq_r (ry_lenH rfl) ?_
  refine sq_r (ry_int rfl rfl rfl) ?_
  refine sq_nil ?_
  refine ex_then ?_
  refine cw_cond rfl (fun h4 => ?_) (fun h4 => ?_)
  ·
   try simp only [bz0, bz1, bz2, bz3, bz4, bz5, bz6, bz7, bz8, bz9] at h4
   obtain ⟨hE, hL, hK⟩ := both_full k1 k2 k3 (by rw [← hbo]; omega)
   refine cw_seq ?_
   refine cw_region ?_
   refine sq_r (ry_assign rfl) ?_
   refine sq_r (ry_assign rfl) ?_
   refine sq_r (ry_assign rfl) ?_
   refine sq_nil ?_
   refine ex_then ?_
   refine cw_ret ?_
   refine ex_pass_ret ?_
   refine ex_ret (.inl rfl) (res_3 rfl (rv_tmp rfl) (rv_tmp rfl) (rv_tmp rfl)) (fun w1 hw => ?_)
   exact ⟨(Sv.none, Sv.none), by rw [hE]; rfl, trivial, by rw [hL, hK]; exact ((Keep.mem hw : Mem w [] _).nilOwn pcells 18).nilOwn rcells 19⟩
  ·
   try simp only [bz0, bz1, bz2, bz3, bz4, bz5, bz6, bz7, bz8, bz9] at h4
   obtain ⟨hE, hL, hK⟩ := both_fine k1 k2 k3 (by rw [← hbo]; omega)
   refine cw_skip ?_
   refine ex_then ?_
   refine cw_seq ?_
   refine cw_region ?_
   refine sq_r (ry_move rfl) ?_
   refine sq_r (ry_move rfl) ?_
   refine sq_r (ry_assign rfl) ?_
   refine sq_r (ry_assign rfl) ?_
   refine sq_r (ry_assign rfl) ?_
   refine sq_nil ?_
   refine ex_then ?_
   refine cw_ret ?_
   refine ex_ret (.inl rfl) (res_3 rfl (rv_tmp rfl) (rv_tmp rfl) (rv_tmp rfl)) (fun w1 hw => ?_)
   exact ⟨(o, o2), by rw [hE], trivial, by rw [hL, hK, ← hbo, ← hbt]; exact Keep.mem hw⟩
instance r18both_i {w0 : World} {L : List Ent} {t : Sv} {ts : List Rt} {u : Sv} {us : List Rt} {v : Sv} {vs : List Rt} [ht : HdE w0 L rcells 19 t ts] [hu : HdE w0 L rcells 19 u us] [hv : HdE w0 L rcells 19 v vs] : FnC Try.prog 42 w0 L [t.val, u.val, v.val] (Sv × Sv) (fun zz => .tuple #[zz.1.val, zz.2.val, .int .i64 (bothE ts us vs)]) (fun zz => own rcells 19 zz.1 (bothL ts us vs) :: own pcells 18 zz.2 (bothK ts us vs) :: L) (fun zz => True) (tright ts = true ∧ tright us = true ∧ tright vs = true) := ⟨fun hp w hw => (r18both_c w t ts u us v vs (ht.h w hw) (hu.h w hw) (hv.h w hw) hp).mono fun e w' ⟨x, h1, h2, h3⟩ => ⟨x, h1, h2, hw.call h3⟩⟩

end Go.Proofs.Ytldkgicmfbofiaa

/- Layer 18 awake. -/
namespace Go.Proofs.Ytldkgicmfbofiaa
open Go.Eng Go.Kb

def k18 : Key := BitVec.ofNat 128 (10 * 2 ^ 120)
def p18 : Pfx := ⟨32, 8, k18⟩
def ten18 (h : UInt16) : List Rt := [⟨p18, h⟩]
def c18 (h : UInt16) : Ch := ⟨⟨p18, h⟩, false⟩
theorem ten18_len (h : UInt16) : (ten18 h).length = 1 := rfl
theorem aw18_d (a b : UInt16) (h : a ≠ b) : diffF (ten18 a) (ten18 b) = [c18 b] := by
 have hp : pless p18 p18 = false := by decide +kernel
 rw [ten18, ten18, diffF, if_neg (by rw [hp]; simp), if_pos rfl, if_pos h, diff_nil]; rfl
theorem aw18_1 : difE (ten18 1) (ten18 2) = 0 := by decide +kernel
theorem aw18_2 : difL (ten18 1) (ten18 2) = [c18 2] := by rw [difL, if_pos aw18_1, aw18_d _ _ (by decide)]
theorem aw18_3 : bhE (ten18 1) [c18 2] = 0 := by decide +kernel
theorem aw18_3a : appL (ten18 1) [c18 2] = ten18 2 := by decide +kernel
theorem aw18_4 : undoL (ten18 1) [c18 2] = [c18 1] := by rw [undoL, if_pos aw18_3, aw18_3a, aw18_d _ _ (by decide)]
theorem aw18_5 : fldE ([] ++ [c18 2] ++ [c18 1]) = 0 := by decide +kernel
theorem aw18_6 : fldL ([] ++ [c18 2] ++ [c18 1]) = [c18 1] := by decide +kernel
theorem aw18_7 : bothE (ten18 1) (ten18 2) (ten18 3) = 0 := by decide +kernel
theorem aw18_8 : bothL (ten18 1) (ten18 2) (ten18 3) = ten18 2 := by decide +kernel
theorem aw18_9 : bothK (ten18 1) (ten18 2) (ten18 3) = [p18] := by decide +kernel
theorem aw18_a : (c18 2).r.hop = 2 := rfl
theorem aw18_b : (c18 1).r.hop = 1 := rfl
instance (h : UInt16) : BuildT Try.prog 34 [(0, .agg (pcells p18)), (1, .int .u16 h.toNat)] (.agg (rcells ⟨p18, h⟩)) := ⟨fun w => by kernel_rfl⟩
set_option maxRecDepth 20000 in
theorem ten18_c (w : World) (h : UInt16)  : Calls Try.prog 60 #[.int .u16 (h.toNat : Nat)] w fun e w' => ∃ zz : Sv, e = .returned (zz.val) ∧ (True) ∧ Mem w [own rcells 19 zz (ten18 h)] w' := by
 refine calls_of (args := [_]) Try.func60 rfl Try.ntmps60 rfl ?_
 change Cw _ _ _ _ _ [(0, .int .u16 (h.toNat : Nat))] []
 refine cw_seq ?_
 refine cw_region ?_
 refine sq_r (ry_assign rfl) ?_
 refine sq_nil ?_
 refine ex_then ?_
 refine cw_seq ?_
 refine cw_region ?_
 refine sq_r (ry_build (v := .agg (kcells k18)) rfl (fun w => by kernel_rfl)) ?_
 refine sq_r (ry_build (v := .agg (pcells p18)) rfl (fun w => by kernel_rfl)) ?_
 refine sq_r (ry_move rfl) ?_
 refine sq_r (ry_buildc rfl) ?_
 refine sq_buildSlice (enc := rcells) (vals := [_]) (ten18 h) rfl rfl rfl (by decide) (by decide) fun b7 => ?_
 refine sq_r (ry_assign rfl) ?_
 refine sq_nil ?_
 refine ex_then ?_
 refine cw_ret ?_
 refine ex_ret (.inl rfl) (res_1 rfl (rv_tmp rfl)) (fun w1 hw => ?_)
 exact ⟨⟨false, b7, 0, 1, 1, none⟩, rfl, trivial, Keep.mem hw⟩
instance ten18_i {w0 : World} {L : List Ent} {h : UInt16}  : FnC Try.prog 60 w0 L [.int .u16 (h.toNat : Nat)] (Sv) (fun zz => zz.val) (fun zz => own rcells 19 zz (ten18 h) :: L) (fun zz => True) (True) := ⟨fun hp w hw => (ten18_c w h ).mono fun e w' ⟨x, h1, h2, h3⟩ => ⟨x, h1, h2, hw.call h3⟩⟩
set_option maxRecDepth 20000 in
theorem aw18_c (w : World)   : Calls Try.prog 31 #[] w fun e w' => e = .returned (.bool true) ∧ Mem w [] w' := by
 refine calls_of (args := []) Try.func31 rfl Try.ntmps31 rfl ?_
 change Cw _ _ _ _ _ [] []
 refine cw_seq ?_
 refine cw_region ?_
 refine sq_r (ry_assign rfl) ?_
 refine sq_nil ?_
 refine ex_then ?_
 refine cw_seq ?_
 refine cw_region ?_
 refine sq_callC (vs := [.int .u16 ((1 : UInt16).toNat : Int)]) rfl trivial fun x11 hp11 => ?_
 refine sq_callC (vs := [.int .u16 ((2 : UInt16).toNat : Int)]) rfl trivial fun x12 hp12 => ?_
 refine sq_callC rfl trivial fun x13 hp13 => ?_
 rw [aw18_1, aw18_2]
 refine sq_r (ry_move rfl) ?_
 refine sq_r (ry_extract (v := x13.val) rfl rfl) ?_
 refine sq_r (ry_extract (v := .int .i64 0) rfl rfl) ?_
 refine sq_r (ry_assign rfl) ?_
 refine sq_r (ry_assign rfl) ?_
 refine sq_nil ?_
 refine ex_then ?_
 refine cw_seq ?_
 refine cw_region ?_
 refine sq_callC (vs := [.int .u16 ((1 : UInt16).toNat : Int)]) rfl trivial fun x17 hp17 => ?_
 refine sq_r (ry_move rfl) ?_
 refine sq_callC rfl trivial fun x19 hp19 => ?_
 rw [aw18_3, aw18_4]
 refine sq_r (ry_move rfl) ?_
 refine sq_r (ry_extract (v := x19.val) rfl rfl) ?_
 refine sq_r (ry_extract (v := .int .i64 0) rfl rfl) ?_
 refine sq_r (ry_assign rfl) ?_
 refine sq_r (ry_assign rfl) ?_
 refine sq_nil ?_
 refine ex_then ?_
 refine cw_seq ?_
 refine cw_region ?_
 refine sq_build0 chcells fun b23 => ?_
 refine sq_r (ry_move rfl) ?_
 refine sq_append (s := ⟨false, b23, 0, 0, 0, none⟩) (ys := [c18 2]) rfl rfl (by decide) (fun w hw => src_rows (s := x13) Try.underlying27 (by decide) ((inferInstance : Hd _ _ x13 chcells 20 [c18 2]).h w hw)) (by simp only [List.length_append, List.length_cons, List.length_nil]; omega) (by simp only [List.length_append, List.length_cons, List.length_nil]; omega) fun s25 hs25 hl25 => ?_
 refine sq_r (ry_move rfl) ?_
 refine sq_append (s := s25) (ys := [c18 1]) rfl rfl (by decide) (fun w hw => src_rows (s := x19) Try.underlying27 (by decide) ((inferInstance : Hd _ _ x19 chcells 20 [c18 1]).h w hw)) (by simp only [List.length_append, List.length_cons, List.length_nil]; omega) (by simp only [List.length_append, List.length_cons, List.length_nil]; omega) fun s27 hs27 hl27 => ?_
 refine sq_callC rfl (by simp) fun x28 hp28 => ?_
 rw [aw18_5, aw18_6]
 refine sq_r (ry_move rfl) ?_
 refine sq_r (ry_extract (v := x28.val) rfl rfl) ?_
 refine sq_r (ry_extract (v := .int .i64 0) rfl rfl) ?_
 refine sq_r (ry_assign rfl) ?_
 refine sq_r (ry_assign rfl) ?_
 refine sq_nil ?_
 refine ex_then ?_
 refine cw_seq ?_
 refine cw_region ?_
 refine sq_callC (vs := [.int .u16 ((1 : UInt16).toNat : Int)]) rfl trivial fun x32 hp32 => ?_
 refine sq_callC (vs := [.int .u16 ((2 : UInt16).toNat : Int)]) rfl trivial fun x33 hp33 => ?_
 refine sq_callC (vs := [.int .u16 ((3 : UInt16).toNat : Int)]) rfl trivial fun x34 hp34 => ?_
 refine sq_callC rfl trivial fun x35 hp35 => ?_
 rw [aw18_7, aw18_8, aw18_9]
 refine sq_r (ry_move rfl) ?_
 refine sq_r (ry_extract (v := x35.1.val) rfl rfl) ?_
 refine sq_r (ry_extract (v := x35.2.val) rfl rfl) ?_
 refine sq_r (ry_extract (v := .int .i64 0) rfl rfl) ?_
 refine sq_r (ry_assign rfl) ?_
 refine sq_r (ry_assign rfl) ?_
 refine sq_r (ry_assign rfl) ?_
 refine sq_nil ?_
 refine ex_then ?_
 refine cw_seq ?_
 refine cw_lin [56] [[], [], [], [], [], [], [], [], [], [], [], [], [], [], [], [], [], [], [], [], [], [], [], [], [], [], [], [], [], [], [], [], [], [], [], [], [], [], [], [], [], [], [], [], [], [], [], [], [], [], [], [], [], [], [], [], [], [56], [56], [56], [56], [56], [56], [56], [56]] [0, 1, 2, 3, 4, 5, 6, 7, 8, 9, 10, 11, 12, 13, 14, 15, 16, 17, 18, 19, 20, 21, 22, 23, 24, 25, 26, 27, 28, 29, 30, 31, 32, 33, 34, 35, 36, 37, 38, 39, 40, 41, 42, 43, 44, 45, 46, 47, 48, 49, 50, 51, 52, 53, 54, 55, 56, 57, 58, 59, 60, 61, 62, 63, 64] _ (fun _ hw => hw) (by kernel_rfl) (by kernel_rfl) ?_
 refine ln_r rfl (ry_move rfl) ?_
 refine ln_r rfl (ry_int rfl rfl rfl) ?_
 refine ln_r rfl (ry_move rfl) ?_
 refine ln_ty rfl rfl rfl rfl (by simp [aw18_a, aw18_b]) (Ry.yl (ry_move rfl)) ?_
 refine ln_ty rfl rfl rfl rfl (by simp [aw18_a, aw18_b]) (Ry.yl (ry_lenH rfl)) ?_
 refine ln_ty rfl rfl rfl rfl (by simp [aw18_a, aw18_b]) (Ry.yl (ry_int rfl rfl rfl)) ?_
 refine ln_r rfl (ry_pickT rfl (by simp [aw18_a, aw18_b]) rfl rfl) ?_
 refine ln_r rfl (ry_move rfl) ?_
 refine ln_ty rfl rfl rfl rfl (by simp [aw18_a, aw18_b]) (Ry.yl (ry_move rfl)) ?_
 refine ln_ty rfl rfl rfl rfl (by simp [aw18_a, aw18_b]) (Ry.yl (ry_idxH rfl rfl 0 rfl (by decide))) ?_
 refine ln_ty rfl rfl rfl rfl (by simp [aw18_a, aw18_b]) (Ry.yl (ry_field rfl rfl)) ?_
 refine ln_ty rfl rfl rfl rfl (by simp [aw18_a, aw18_b]) (Ry.yl (ry_field rfl rfl)) ?_
 refine ln_ty rfl rfl rfl rfl (by simp [aw18_a, aw18_b]) (Ry.yl (ry_elemcH (j := 18) rfl 0 rfl rfl (by decide))) ?_
 refine ln_ty rfl rfl rfl rfl (by simp [aw18_a, aw18_b]) (Ry.yl (ry_int rfl rfl rfl)) ?_
 refine ln_r rfl (ry_pickT rfl (by simp [aw18_a, aw18_b]) rfl rfl) ?_
 refine ln_r rfl (ry_move rfl) ?_
 refine ln_ty rfl rfl rfl rfl (by simp [aw18_a, aw18_b]) (Ry.yl (ry_move rfl)) ?_
 refine ln_ty rfl rfl rfl rfl (by simp [aw18_a, aw18_b]) (Ry.yl (ry_int rfl rfl rfl)) ?_
 refine ln_r rfl (ry_pickT rfl (by simp [aw18_a, aw18_b]) rfl rfl) ?_
 refine ln_r rfl (ry_move rfl) ?_
 refine ln_ty rfl rfl rfl rfl (by simp [aw18_a, aw18_b]) (Ry.yl (ry_move rfl)) ?_
 refine ln_ty rfl rfl rfl rfl (by simp [aw18_a, aw18_b]) (Ry.yl (ry_lenH rfl)) ?_
 refine ln_ty rfl rfl rfl rfl (by simp [aw18_a, aw18_b]) (Ry.yl (ry_int rfl rfl rfl)) ?_
 refine ln_r rfl (ry_pickT rfl (by simp [aw18_a, aw18_b]) rfl rfl) ?_
 refine ln_r rfl (ry_move rfl) ?_
 refine ln_ty rfl rfl rfl rfl (by simp [aw18_a, aw18_b]) (Ry.yl (ry_move rfl)) ?_
 refine ln_ty rfl rfl rfl rfl (by simp [aw18_a, aw18_b]) (Ry.yl (ry_idxH rfl rfl 0 rfl (by decide))) ?_
 refine ln_ty rfl rfl rfl rfl (by simp [aw18_a, aw18_b]) (Ry.yl (ry_field rfl rfl)) ?_
 refine ln_ty rfl rfl rfl rfl (by simp [aw18_a, aw18_b]) (Ry.yl (ry_field rfl rfl)) ?_
 refine ln_ty rfl rfl rfl rfl (by simp [aw18_a, aw18_b]) (Ry.yl (ry_elemcH (j := 18) rfl 0 rfl rfl (by decide))) ?_
 refine ln_ty rfl rfl rfl rfl (by simp [aw18_a, aw18_b]) (Ry.yl (ry_int rfl rfl rfl)) ?_
 refine ln_r rfl (ry_pickT rfl (by simp [aw18_a, aw18_b]) rfl rfl) ?_
 refine ln_r rfl (ry_move rfl) ?_
 refine ln_ty rfl rfl rfl rfl (by simp [aw18_a, aw18_b]) (Ry.yl (ry_move rfl)) ?_
 refine ln_ty rfl rfl rfl rfl (by simp [aw18_a, aw18_b]) (Ry.yl (ry_int rfl rfl rfl)) ?_
 refine ln_r rfl (ry_pickT rfl (by simp [aw18_a, aw18_b]) rfl rfl) ?_
 refine ln_r rfl (ry_move rfl) ?_
 refine ln_ty rfl rfl rfl rfl (by simp [aw18_a, aw18_b]) (Ry.yl (ry_move rfl)) ?_
 refine ln_ty rfl rfl rfl rfl (by simp [aw18_a, aw18_b]) (Ry.yl (ry_lenH rfl)) ?_
 refine ln_ty rfl rfl rfl rfl (by simp [aw18_a, aw18_b]) (Ry.yl (ry_int rfl rfl rfl)) ?_
 refine ln_r rfl (ry_pickT rfl (by simp [aw18_a, aw18_b]) rfl rfl) ?_
 refine ln_r rfl (ry_move rfl) ?_
 refine ln_ty rfl rfl rfl rfl (by simp [aw18_a, aw18_b]) (Ry.yl (ry_move rfl)) ?_
 refine ln_ty rfl rfl rfl rfl (by simp [aw18_a, aw18_b]) (Ry.yl (ry_idxH rfl rfl 0 rfl (by decide))) ?_
 refine ln_ty rfl rfl rfl rfl (by simp [aw18_a, aw18_b]) (Ry.yl (ry_elemH rfl 0 rfl rfl)) ?_
 refine ln_ty rfl rfl rfl rfl (by simp [aw18_a, aw18_b]) (Ry.yl (ry_move rfl)) ?_
 refine ln_ty rfl rfl rfl rfl (by simp [aw18_a, aw18_b]) (Ry.yl (ry_idxH rfl rfl 0 rfl (by decide))) ?_
 refine ln_ty rfl rfl rfl rfl (by simp [aw18_a, aw18_b]) (Ry.yl (ry_elemH rfl 0 rfl rfl)) ?_
 refine ln_ty rfl rfl rfl rfl (by simp [aw18_a, aw18_b]) (Ry.yl (ry_eq rfl rfl)) ?_
 refine ln_r rfl (ry_pickT rfl (by simp [aw18_a, aw18_b]) rfl rfl) ?_
 refine ln_r rfl (ry_move rfl) ?_
 refine ln_ty rfl rfl rfl rfl (by simp [aw18_a, aw18_b]) (Ry.yl (ry_move rfl)) ?_
 refine ln_ty rfl rfl rfl rfl (by simp [aw18_a, aw18_b]) (Ry.yl (ry_int rfl rfl rfl)) ?_
 refine ln_r rfl (ry_pickT rfl (by simp [aw18_a, aw18_b]) rfl rfl) ?_
 refine ln_r rfl (ry_move rfl) ?_
 refine ln_ty rfl rfl rfl rfl (by simp [aw18_a, aw18_b]) (Ry.yl (ry_move rfl)) ?_
 refine ln_stT rfl rfl rfl rfl (by simp [aw18_a, aw18_b]) (st_callC (vs := [.int .u16 ((2 : UInt16).toNat : Int)]) rfl trivial fun x95 hp95 => ⟨fun _ hw => Keep.mem hw, ?_⟩)
 refine ln_ty rfl rfl rfl rfl (by simp [aw18_a, aw18_b]) (yl_callC rfl (by simp [ten18])) ?_
 refine ln_r rfl (ry_pickT rfl (by simp [aw18_a, aw18_b]) rfl rfl) ?_
 refine ln_r rfl (ry_move rfl) ?_
 refine ln_ty rfl rfl rfl rfl (by simp [aw18_a, aw18_b]) (Ry.yl (ry_move rfl)) ?_
 refine ln_ty rfl rfl rfl rfl (by simp [aw18_a, aw18_b]) (Ry.yl (ry_lenH rfl)) ?_
 refine ln_ty rfl rfl rfl rfl (by simp [aw18_a, aw18_b]) (Ry.yl (ry_int rfl rfl rfl)) ?_
 refine ln_r rfl (ry_pickT rfl (by simp [aw18_a, aw18_b]) rfl rfl) ?_
 refine ln_r rfl (ry_assign rfl) ?_
 refine ln_nil ?_
 refine ex_then ?_
 refine cw_ret ?_
 refine ex_ret (.inl rfl) (res_1 rfl (rv_tmp rfl)) (fun w1 hw => ?_)
 exact ⟨congrArg (fun b => Ending.returned (Value.bool b)) ((by simp)), Keep.mem hw⟩
instance aw18_i {w0 : World} {L : List Ent}   : FnQ Try.prog 31 w0 L [] (.bool true) (True) := ⟨fun hp w hw => aw18_c w  ⟩

end Go.Proofs.Ytldkgicmfbofiaa

