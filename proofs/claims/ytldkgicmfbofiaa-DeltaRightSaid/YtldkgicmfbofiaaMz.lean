/- slices.DeleteFunc of routes: walked. -/
import Derived.Test.YtldkgicmfbofiaaMy
import Derived.Test.YtldkgicmfbofiaaMu

set_option linter.unusedSimpArgs false
set_option linter.unusedVariables false
namespace Go.Proofs.Ytldkgicmfbofiaa
open Go.Eng Go.Kb
set_option maxRecDepth 20000 in
theorem sdel_c (w : World) (r : Rt)  : Calls Try.prog 51 #[.agg (rcells r)] w fun e w' => e = .returned (.bool (!pmay r.p)) ∧ Mem w [] w' := by
 refine calls_of (args := [_]) Try.func51 rfl Try.ntmps51 rfl ?_
 change Cw _ _ _ _ _ [(0, .agg (rcells r))] []
 refine cw_seq ?_
 refine cw_region ?_
 refine sq_boxA rfl fun b1 => ?_
 refine sq_r (ry_assign rfl) ?_
 refine sq_nil ?_
 refine ex_then ?_
 refine cw_seq ?_
 refine cw_region ?_
 refine sq_r (ry_field (o' := 0) rfl rfl) ?_
 refine sq_r (ry_part rfl) ?_
 refine sq_y (yl_callC rfl trivial) ?_
 refine sq_r (ry_not rfl) ?_
 refine sq_r (ry_assign rfl) ?_
 refine sq_nil ?_
 refine ex_then ?_
 refine cw_ret ?_
 refine ex_ret (.inl rfl) (res_1 rfl (rv_tmp rfl)) (fun w1 hw => ?_)
 exact ⟨congrArg (fun b => Ending.returned (Value.bool b)) (rfl), Keep.mem hw⟩
instance sdel_i {w0 : World} {L : List Ent} {r : Rt}  : FnQ Try.prog 51 w0 L [.agg (rcells r)] (.bool (!pmay r.p)) (True) := ⟨fun hp w hw => sdel_c w r ⟩
set_option maxRecDepth 20000 in
theorem sidx_c (w : World) (s : Sv) (ss : List Rt) (hs : Lies rcells 19 (hp w) s ss) : Calls Try.prog 75 #[s.val, .func (.func 51) #[] #[]] w fun e w' => e = .returned (.int .i64 (delI ss)) ∧ Mem w [] w' := by
 have ghs : Gv w s rcells 19 ss := ⟨hs⟩
 have hsb := hs.bd
 refine calls_of (args := [_, _]) Try.func75 rfl Try.ntmps75 rfl ?_
 change Cw _ _ _ _ _ [(0, s.val), (1, .func (.func 51) #[] #[])] []
 refine cw_seq ?_
 refine cw_region ?_
 refine sq_r (ry_assign rfl) ?_
 refine sq_nil ?_
 refine ex_then ?_
 refine cw_seq ?_
 refine cw_seq ?_
 refine cw_region ?_
 refine sq_r (ry_move rfl) ?_
 refine sq_r (ry_lenH rfl) ?_
 refine sq_r (ry_move rfl) ?_
 refine sq_nil ?_
 refine ex_then ?_
 refine cw_block ?_
 refine cw_loop (X := Nat) (fun zz => [(8, .int .i64 (zz : Nat)), (0, s.val), (1, .func (.func 51) #[] #[]), (7, .int .i64 (ss.length : Nat))]) (fun zz => []) (fun zz => zz ≤ ss.length ∧ ∀ y ∈ ss.take zz, pmay y.p = true) (fun zz => ss.length - zz) 0 ⟨Nat.zero_le _, by simp⟩ (Sub.cons rfl (Sub.cons rfl (Sub.cons rfl (Sub.cons rfl (Sub.nil _))))) (fun w hw => Keep.mem hw) ?_
 rintro i ⟨hi1, hi2⟩
 refine cw_seq ?_
 refine cw_region ?_
 refine sq_r (ry_int rfl rfl rfl) ?_
 refine sq_nil ?_
 refine ex_then ?_
 refine cw_seq ?_
 refine cw_cond rfl (fun h0 => ?_) (fun h0 => ?_)
 ·
  try simp only [bz0, bz1, bz2, bz3, bz4, bz5, bz6, bz7, bz8, bz9] at h0
  refine cw_skip ?_
  refine ex_then ?_
  refine cw_seq ?_
  refine cw_block ?_
  refine cw_seq ?_
  refine cw_region ?_
  refine sq_r (ry_move rfl) ?_
  refine sq_r (ry_assign rfl) ?_
  refine sq_nil ?_
  refine ex_then ?_
  refine cw_seq ?_
  refine cw_region ?_
  refine sq_r (ry_move rfl) ?_
  refine sq_r (ry_move rfl) ?_
  refine sq_r (ry_move rfl) ?_
  obtain ⟨x, hx⟩ := get_some (xs := ss) (i := i) (by omega)
  refine sq_r (ry_idxH rfl rfl i rfl (by omega)) ?_
  refine sq_r (ry_elemH rfl i hx rfl) ?_
  refine sq_y (yl_callV (vs := [.agg (rcells x)]) (vs2 := [.agg (rcells x)]) rfl rfl rfl trivial) ?_
  refine sq_nil ?_
  refine ex_then ?_
  refine cw_cond rfl (fun h1 => ?_) (fun h1 => ?_)
  ·
   try simp only [bz0, bz1, bz2, bz3, bz4, bz5, bz6, bz7, bz8, bz9] at h1
   refine cw_seq ?_
   refine cw_region ?_
   refine sq_r (ry_move rfl) ?_
   refine sq_r (ry_assign rfl) ?_
   refine sq_nil ?_
   refine ex_then ?_
   refine cw_ret ?_
   refine ex_block_ret ?_
   refine ex_pass_ret ?_
   refine ex_pass_ret ?_
   refine ex_block_ret ?_
   refine ex_pass_ret ?_
   refine ex_ret (.inl rfl) (res_1 rfl (rv_tmp rfl)) (fun w1 hw => ?_)
   exact ⟨congrArg (fun b => Ending.returned (Value.int .i64 b)) (by rw [delI_at hx (by simpa using h1) hi2]), Keep.mem hw⟩
  ·
   try simp only [bz0, bz1, bz2, bz3, bz4, bz5, bz6, bz7, bz8, bz9] at h1
   refine cw_skip ?_
   refine ex_block ?_
   refine ex_then ?_
   refine cw_region ?_
   refine sq_r (ry_add rfl rfl (by omega)) ?_
   refine sq_r (ry_move rfl) ?_
   refine sq_nil ?_
   exact ex_again (x := (i)) (i + 1) ⟨by first | omega | (simp only []; omega), fun y hy => by rw [List.take_add_one, hx, List.mem_append] at hy; rcases hy with h | h; (exact hi2 y h); (obtain rfl : y = x := by simpa using h); simpa using h1⟩ (by first | omega | (simp only []; omega)) (Sub.cons rfl (Sub.cons rfl (Sub.cons rfl (Sub.cons rfl (Sub.nil _))))) (fun w hw => Keep.mem hw)
 ·
  try simp only [bz0, bz1, bz2, bz3, bz4, bz5, bz6, bz7, bz8, bz9] at h0
  obtain rfl : i = ss.length := by omega
  refine cw_exit ?_
  refine ex_pass_exit ?_
  refine ex_pass_exit ?_
  refine ex_block_hit ?_
  refine ex_then ?_
  refine cw_seq ?_
  refine cw_region ?_
  refine sq_r (ry_assign rfl) ?_
  refine sq_nil ?_
  refine ex_then ?_
  refine cw_ret ?_
  refine ex_ret (.inl rfl) (res_1 rfl (rv_tmp rfl)) (fun w1 hw => ?_)
  exact ⟨congrArg (fun b => Ending.returned (Value.int .i64 b)) (by rw [delI_no (fun y hy => hi2 y (by rw [List.take_length]; exact hy))]), Keep.mem hw⟩
instance sidx_i {w0 : World} {L : List Ent} {s : Sv} {ss : List Rt} [hs : HdE w0 L rcells 19 s ss] : FnQ Try.prog 75 w0 L [s.val, .func (.func 51) #[] #[]] (.int .i64 (delI ss)) (True) := ⟨fun hp w hw => sidx_c w s ss (hs.h w hw)⟩
set_option maxRecDepth 20000 in
theorem sdelf_c (w0 w : World) (L : List Ent) (s : Sv) (ss : List Rt)  (hw : Mem w0 (own rcells 19 s ss :: L) w) (hpre : ss.length ≤ 1000000) : Calls Try.prog 50 #[s.val, .func (.func 51) #[] #[]] w fun e w' => ∃ zz : Sv, e = .returned (zz.val) ∧ (True) ∧ Mem w0 (own rcells 19 zz (keepF ss) :: L) w' := by
 refine calls_in (args := [_, _]) Try.func50 rfl Try.ntmps50 rfl hw ?_
 change Cw _ _ _ _ _ [(0, s.val), (1, .func (.func 51) #[] #[])] (own rcells 19 s ss :: L)
 refine cw_seq ?_
 refine cw_region ?_
 refine sq_r (ry_assign rfl) ?_
 refine sq_nil ?_
 refine ex_then ?_
 refine cw_seq ?_
 refine cw_region ?_
 refine sq_r (ry_move rfl) ?_
 refine sq_r (ry_move rfl) ?_
 refine sq_y (yl_callC rfl trivial) ?_
 refine sq_r (ry_assign rfl) ?_
 refine sq_nil ?_
 refine ex_then ?_
 refine cw_seq ?_
 refine cw_seq ?_
 refine cw_region ?_
 refine sq_r (ry_move rfl) ?_
 refine sq_r (ry_int rfl rfl rfl) ?_
 refine sq_nil ?_
 refine ex_then ?_
 refine cw_cond rfl (fun h0 => ?_) (fun h0 => ?_)
 ·
  try simp only [bz0, bz1, bz2, bz3, bz4, bz5, bz6, bz7, bz8, bz9] at h0
  have hk := delI_same h0
  refine cw_seq ?_
  refine cw_region ?_
  refine sq_r (ry_move rfl) ?_
  refine sq_r (ry_assign rfl) ?_
  refine sq_nil ?_
  refine ex_then ?_
  refine cw_ret ?_
  refine ex_pass_ret ?_
  refine ex_ret (.inl rfl) (res_1 rfl (rv_tmp rfl)) (fun w1 hw => ?_)
  exact ⟨s, rfl, trivial, by rw [hk]; exact hw⟩
 ·
  try simp only [bz0, bz1, bz2, bz3, bz4, bz5, bz6, bz7, bz8, bz9] at h0
  obtain ⟨i0, he, hlt, hk⟩ := delI_yes h0
  refine cw_skip ?_
  refine ex_then ?_
  refine cw_seq ?_
  refine cw_seq ?_
  refine cw_region ?_
  refine sq_r (ry_move rfl) ?_
  refine sq_r (ry_add rfl rfl (by omega)) ?_
  refine sq_r (ry_assign rfl) ?_
  refine sq_nil ?_
  refine ex_then ?_
  refine cw_block ?_
  refine cw_loop (X := Nat × Nat × List Rt) (fun zz => [(5, .int .i64 (zz.1 : Nat)), (6, .int .i64 (zz.2.1 : Nat)), (0, s.val), (1, .func (.func 51) #[] #[])]) (fun zz => own rcells 19 s zz.2.2 :: L) (fun zz => Dl ss zz.2.2 zz.1 zz.2.1) (fun zz => ss.length - zz.2.1) (i0, i0 + 1, ss) (Dl.start hlt hk) (Sub.cons (look_eq rfl (by rw [he])) (Sub.cons (look_eq rfl (by rw [he]; rfl)) (Sub.cons rfl (Sub.cons rfl (Sub.nil _))))) (fun w hw => Keep.mem hw) ?_
  rintro ⟨i, j, cur⟩ hd
  dsimp only
  have hlen := hd.len
  have hij := hd.lt
  have hjl := hd.le
  simp only at hlen hij hjl hd
  refine cw_seq ?_
  refine cw_seq ?_
  refine cw_region ?_
  refine sq_r (ry_move rfl) ?_
  refine sq_r (ry_move rfl) ?_
  refine sq_r (ry_lenH rfl) ?_
  refine sq_r (ry_int rfl rfl rfl) ?_
  refine sq_nil ?_
  refine ex_then ?_
  refine cw_cond rfl (fun h1 => ?_) (fun h1 => ?_)
  ·
   try simp only [bz0, bz1, bz2, bz3, bz4, bz5, bz6, bz7, bz8, bz9] at h1
   refine cw_skip ?_
   refine ex_then ?_
   refine cw_seq ?_
   refine cw_block ?_
   refine cw_seq ?_
   refine cw_region ?_
   refine sq_r (ry_move rfl) ?_
   refine sq_r (ry_move rfl) ?_
   obtain ⟨x, hx⟩ := get_some (xs := cur) (i := j) (by omega)
   refine sq_r (ry_idxH rfl rfl j rfl (by omega)) ?_
   refine sq_r (ry_elemH rfl j hx rfl) ?_
   refine sq_allocA fun b7 => ?_
   refine sq_storeW rfl rfl ?_
   refine sq_nil ?_
   refine ex_then ?_
   refine cw_seq ?_
   refine cw_region ?_
   refine sq_r (ry_move rfl) ?_
   refine sq_r (ry_whole rfl) ?_
   refine sq_y (yl_callV (vs := [.agg (rcells x)]) (vs2 := [.agg (rcells x)]) rfl rfl rfl trivial) ?_
   refine sq_r (ry_not rfl) ?_
   refine sq_nil ?_
   refine ex_then ?_
   refine cw_cond rfl (fun h2 => ?_) (fun h2 => ?_)
   ·
    try simp only [bz0, bz1, bz2, bz3, bz4, bz5, bz6, bz7, bz8, bz9] at h2
    refine cw_seq ?_
    refine cw_region ?_
    refine sq_r (ry_move rfl) ?_
    refine sq_r (ry_move rfl) ?_
    refine sq_r (ry_whole rfl) ?_
    obtain ⟨y, hy⟩ := get_some (xs := cur) (i := i) (by omega)
    refine sq_r (ry_idxH rfl rfl i rfl (by omega)) ?_
    refine sq_storeS (n := 19) (k := i) (j := 0) (a := y) (a' := x) (xs := cur) (enc := rcells) (c := 19) (v := .agg (rcells x)) (by kernel_rfl) rfl rfl rfl hy (Enc.one x) (rcells_size x) (by decide) (over_whole (by rw [rcells_size]; exact (rcells_size x).symm)) ?_
    refine sq_nil ?_
    refine ex_then ?_
    refine cw_region ?_
    refine sq_r (ry_move rfl) ?_
    refine sq_r (ry_add rfl rfl (by omega)) ?_
    refine sq_r (ry_assign rfl) ?_
    refine sq_nil ?_
    refine ex_block ?_
    refine ex_then ?_
    refine cw_region ?_
    refine sq_r (ry_move rfl) ?_
    refine sq_r (ry_add rfl rfl (by omega)) ?_
    refine sq_r (ry_assign rfl) ?_
    refine sq_nil ?_
    exact ex_again (x := (i, j, cur)) (i + 1, j + 1, cur.set i x) (hd.keep hx (by simpa using h2)) (by simp only; omega) (Sub.cons rfl (Sub.cons rfl (Sub.cons rfl (Sub.cons rfl (Sub.nil _))))) (fun w hw => Keep.mem hw)
   ·
    try simp only [bz0, bz1, bz2, bz3, bz4, bz5, bz6, bz7, bz8, bz9] at h2
    refine cw_skip ?_
    refine ex_block ?_
    refine ex_then ?_
    refine cw_region ?_
    refine sq_r (ry_move rfl) ?_
    refine sq_r (ry_add rfl rfl (by omega)) ?_
    refine sq_r (ry_assign rfl) ?_
    refine sq_nil ?_
    exact ex_again (x := (i, j, cur)) (i, j + 1, cur) (hd.drop hx (by simpa using h2)) (by simp only; omega) (Sub.cons rfl (Sub.cons rfl (Sub.cons rfl (Sub.cons rfl (Sub.nil _))))) (fun w hw => Keep.mem hw)
  ·
   try simp only [bz0, bz1, bz2, bz3, bz4, bz5, bz6, bz7, bz8, bz9] at h1
   obtain rfl : j = ss.length := by omega
   refine cw_exit ?_
   refine ex_pass_exit ?_
   refine ex_pass_exit ?_
   refine ex_block_hit ?_
   refine ex_then ?_
   refine cw_seq ?_
   refine cw_bd s fun hbd0 => ?_
   refine cw_open (s := s) inferInstance (by decide) (by omega) fun pre mid T hpl hcap hnil hsp hok hsl => ?_
   have hle := hok.le
   have hlu : (flatR rcells (cur.take i)).length = i * 19 := by rw [flatR_length, List.length_take]; congr 1; omega
   have hlv : (flatR rcells (cur.drop i)).length = (cur.length - i) * 19 := by rw [flatR_length, List.length_drop]
   have exs : flatR rcells cur = flatR rcells (cur.take i) ++ flatR rcells (cur.drop i) := by rw [← flatR_app, List.take_append_drop]
   have hlx : (flatR rcells cur).length = cur.length * 19 := flatR_length cur
   obtain ⟨r1, hr1⟩ : ∃ r : Sv, r = (⟨false, s.b, s.o, i, s.cap, none⟩ : Sv) := ⟨_, rfl⟩
   refine cw_region ?_
   refine sq_r (ry_move rfl) ?_
   refine sq_r (ry_move rfl) ?_
   refine sq_r (ry_subS_lo (l := i) (n := cur.length) rfl rfl rfl hok hsl (by omega)) ?_
   refine sq_clearB (D := s.sub 19 i cur.length) (b := s.b) (o := s.o + i * 19) (n := cur.length - i) (z := .agg (rcells zroute)) rfl hnil hsp rfl (by rw [Sv.sub_o (by omega)]) rfl (by omega) (show (rcells zroute).all (·.oneCell') = true from (inferInstance : Enc rcells 19).one zroute) (by simp only [List.size_toArray, List.length_append]; omega) fun Z hZ => ?_
   refine sq_nil ?_
   refine ex_then ?_
   refine cw_seq ?_
   refine cw_region ?_
   refine sq_r (ry_move rfl) ?_
   refine sq_r (ry_move rfl) ?_
   refine sq_r (Ry.to (v' := r1.val) (ry_subS_hi (h := i) rfl rfl rfl hok (by omega)) (by rw [hr1, Sv.sub_eq hnil hsp])) ?_
   refine sq_r (ry_assign rfl) ?_
   refine sq_nil ?_
   refine ex_then ?_
   refine cw_ret ?_
   refine ex_ret (.inl rfl) (res_1 rfl (rv_tmp rfl)) (fun w1 hw => ?_)
   refine ⟨r1, rfl, trivial, ?_⟩
   rw [exs, show pre ++ (flatR rcells (cur.take i) ++ flatR rcells (cur.drop i) ++ mid) = (pre ++ flatR rcells (cur.take i)) ++ (flatR rcells (cur.drop i) ++ mid) from by simp only [List.append_assoc], over_cat (A := pre ++ flatR rcells (cur.take i)) (by simp only [List.length_append]; omega), List.append_assoc pre] at hw
   have hw2 := own_shut (enc := rcells) (i := 0) (xs := cur.take i) (pre := pre) hw rfl r1 (by rw [hr1]; exact ⟨(fun h => by cases h), by simp only; omega, by simp only; omega, fun _ => rfl⟩) (by rw [hr1]) (by rw [hr1]) (by rw [hr1]) (by rw [hr1]; exact hpl.symm) (by rw [hr1]; simp only [List.length_take]; omega) (by rw [hr1]; simp only [List.length_append, List.length_take, List.length_drop]; omega)
   rw [hd.done] at hw2
   exact hw2
instance sdelf_i {w0 : World} {L R : List Ent} {i : Nat} {s : Sv} {ss : List Rt}  [q : Owns L s rcells 19 ss i] [d : DelI L i R] : FnC Try.prog 50 w0 L [s.val, .func (.func 51) #[] #[]] (Sv) (fun zz => zz.val) (fun zz => own rcells 19 zz (keepF ss) :: R) (fun zz => True) (ss.length ≤ 1000000) := ⟨fun hp w hw => sdelf_c w0 w R s ss  (mem_one q.h d.h hw) hp⟩

end Go.Proofs.Ytldkgicmfbofiaa

/- table.Sort, and by the reference: walked. -/
namespace Go.Proofs.Ytldkgicmfbofiaa
open Go.Eng Go.Kb
set_option maxRecDepth 20000 in
theorem tsort_c (w : World) (t : Sv) (ts : List Rt) (ht : Lies rcells 19 (hp w) t ts) (hpre : ts.length ≤ 1000000) : Calls Try.prog 20 #[t.val] w fun e w' => ∃ zz : Sv, e = .returned (zz.val) ∧ (True) ∧ Mem w [own rcells 19 zz (tsortF ts)] w' := by
 have ght : Gv w t rcells 19 ts := ⟨ht⟩
 have hkl := keepF_length ts
 refine calls_of (args := [_]) Try.func20 rfl Try.ntmps20 rfl ?_
 change Cw _ _ _ _ _ [(0, t.val)] []
 refine cw_seq ?_
 refine cw_region ?_
 refine sq_r (ry_assign rfl) ?_
 refine sq_nil ?_
 refine ex_then ?_
 refine cw_seq ?_
 refine cw_region ?_
 refine sq_r (ry_move rfl) ?_
 refine sq_callC rfl (by omega) fun x8 hp8 => ?_
 refine sq_callC rfl (by omega) fun x9 hp9 => ?_
 refine sq_alloc1 (z := Sv.none.val) rfl fun b3 => ?_
 refine sq_store1 (by first | rfl | exact Sv.one _) rfl rfl ?_
 refine sq_nil ?_
 refine ex_then ?_
 refine cw_seq ?_
 refine cw_region ?_
 refine sq_r (ry_cellc rfl) ?_
 refine sq_r (ry_iface ⟨_, Try.underlying22, trivial⟩ rfl) ?_
 refine sq_r (Ry.to (v' := LF b3) (ry_makeFn rfl) rfl) ?_
 refine sq_callC rfl ⟨by omega, keepF_may ts⟩ fun x13 hp13 => ?_
 have hxl : x13.length ≤ ts.length := by rw [hp13.length]; exact hkl
 have hts := tsort_of hp13
 refine sq_nil ?_
 refine ex_then ?_
 refine cw_seq ?_
 refine cw_region ?_
 refine sq_r (ry_assign rfl) ?_
 refine sq_nil ?_
 refine ex_then ?_
 refine cw_seq ?_
 refine cw_seq ?_
 refine cw_region ?_
 refine sq_r (ry_cellc rfl) ?_
 refine sq_r (ry_lenH rfl) ?_
 refine sq_r (ry_move rfl) ?_
 refine sq_nil ?_
 refine ex_then ?_
 refine cw_block ?_
 refine cw_loop (X := Nat × Sv × List Rt) (fun zz => [(16, .int .i64 (zz.1 : Nat)), (4, zz.2.1.val), (3, .pointer (some ⟨b3, 0, none⟩)), (14, x9.val), (15, .int .i64 (x13.length : Nat))]) (fun zz => [own rcells 19 zz.2.1 zz.2.2, blk b3 #[x9.val] 22, own rcells 19 x9 x13]) (fun zz => zz.1 ≤ x13.length ∧ zz.2.2 = ddF x13 zz.1) (fun zz => x13.length - zz.1) (0, Sv.none, []) ⟨Nat.zero_le _, rfl⟩ (Sub.cons rfl (Sub.cons rfl (Sub.cons rfl (Sub.cons rfl (Sub.cons rfl (Sub.nil _)))))) (fun w hw => Mem.nilOwn rcells 19 (Keep.mem hw)) ?_
 rintro ⟨i, o, q⟩ ⟨hi1, hi2⟩
 dsimp only
 simp only at hi1 hi2
 have hql := ddF_length x13 i
 rw [← hi2] at hql
 refine cw_seq ?_
 refine cw_region ?_
 refine sq_r (ry_int rfl rfl rfl) ?_
 refine sq_nil ?_
 refine ex_then ?_
 refine cw_seq ?_
 refine cw_cond rfl (fun h0 => ?_) (fun h0 => ?_)
 ·
  try simp only [bz0, bz1, bz2, bz3, bz4, bz5, bz6, bz7, bz8, bz9] at h0
  refine cw_skip ?_
  refine ex_then ?_
  refine cw_seq ?_
  refine cw_block ?_
  refine cw_seq ?_
  refine cw_region ?_
  refine sq_r (ry_move rfl) ?_
  obtain ⟨x, hx⟩ := get_some (xs := x13) (i := i) (by omega)
  refine sq_r (ry_idxH rfl rfl i rfl (by omega)) ?_
  refine sq_r (ry_elemH rfl i hx rfl) ?_
  refine sq_allocA fun b6 => ?_
  refine sq_r (ry_assign rfl) ?_
  refine sq_storeW rfl rfl ?_
  refine sq_nil ?_
  refine ex_then ?_
  refine cw_seq ?_
  refine cw_seq ?_
  refine cw_quiet (by kernel_rfl) (by kernel_rfl) ?_
  refine qt_r (ry_move rfl) ?_
  refine qt_r (ry_add rfl rfl (by omega)) ?_
  refine qt_r (ry_cellc rfl) ?_
  refine qt_r (ry_lenH rfl) ?_
  refine qt_r (ry_int rfl rfl rfl) ?_
  refine qt_r (ry_move rfl) ?_
  refine qt_gt rfl rfl rfl (fun hg => (Ry.yl (ry_cellc rfl))) ?_
  refine qt_gt rfl rfl rfl (fun hg => (Ry.yl (ry_move rfl))) ?_
  refine qt_gt rfl rfl rfl (fun hg => (Ry.yl (ry_add (ev_c hg rfl) rfl (by simp only [bz0, bz1, bz2, bz3, bz4, bz5, bz6, bz7, bz8, bz9] at hg; omega)))) ?_
  refine qt_gt rfl rfl rfl (fun hg => (Ry.yl (ry_idxH (ev_c hg rfl) (ev_c hg rfl) (i + 1) rfl (by simp only [bz0, bz1, bz2, bz3, bz4, bz5, bz6, bz7, bz8, bz9] at hg; omega)))) ?_
  refine qt_gt rfl rfl rfl (fun hg => (Ry.yl (ry_field (ev_c hg rfl) rfl))) ?_
  refine qt_gt rfl rfl rfl (fun hg => (Ry.yl (ry_elempH (j := 0) (ev_c hg rfl) (i + 1) (get_getD (xs := x13) (i := (i + 1)) (d := zroute) (by simp only [bz0, bz1, bz2, bz3, bz4, bz5, bz6, bz7, bz8, bz9] at hg; omega)) rfl (by decide)))) ?_
  refine qt_gt rfl rfl rfl (fun hg => (Ry.yl (ry_field (o' := 0) rfl rfl))) ?_
  refine qt_gt rfl rfl rfl (fun hg => (Ry.yl (ry_part (ev_c hg rfl)))) ?_
  refine qt_gt rfl rfl rfl (fun hg => (Ry.yl (ry_eq (ev_c hg rfl) (ev_c hg rfl)))) ?_
  refine qt_r (ry_and rfl rfl rfl) ?_
  refine qt_nil ?_
  refine ex_then ?_
  refine cw_cond rfl (fun h1 => ?_) (fun h1 => ?_)
  ·
   try simp only [bz0, bz1, bz2, bz3, bz4, bz5, bz6, bz7, bz8, bz9] at h1
   obtain ⟨y, hy⟩ := get_some (xs := x13) (i := i + 1) (by omega)
   have hyx : y.p = x.p := by have := h1.2; simpa [List.getD, hy] using this
   refine cw_exit ?_
   refine ex_pass_exit ?_
   refine ex_block_hit ?_
   refine ex_then ?_
   refine cw_region ?_
   refine sq_r (ry_add rfl rfl (by omega)) ?_
   refine sq_r (ry_move rfl) ?_
   refine sq_nil ?_
   exact ex_again (x := (i, o, q)) (i + 1, o, q) ⟨by first | omega | (simp only []; omega), by rw [ddF_yes hx hy hyx]; exact hi2⟩ (by simp only; omega) (Sub.cons rfl (Sub.cons rfl (Sub.cons rfl (Sub.cons rfl (Sub.cons rfl (Sub.nil _)))))) (fun w hw => Keep.mem hw)
  ·
   try simp only [bz0, bz1, bz2, bz3, bz4, bz5, bz6, bz7, bz8, bz9] at h1
   have hne : ∀ y, x13[i + 1]? = some y → y.p ≠ x.p := fun y hy e => by
    have hyl := (List.getElem?_eq_some_iff.1 hy).1
    rcases h1 with h | h
    ·
     omega
    ·
     exact h (by simpa [List.getD, hy] using e)
   refine cw_skip ?_
   refine ex_then ?_
   refine cw_region ?_
   refine sq_r (ry_move rfl) ?_
   refine sq_r (ry_whole rfl) ?_
   refine sq_buildSlice (enc := rcells) (vals := [_]) [x] rfl rfl rfl (by decide) (by decide) fun b39 => ?_
   refine sq_append (s := o) (ys := [x]) rfl rfl (by decide) (fun w hw => src_rows (s := ⟨false, b39, 0, 1, 1, none⟩) Try.underlying22 (by decide) ((inferInstance : Hd _ _ ⟨false, b39, 0, 1, 1, none⟩ rcells 19 [x]).h w hw)) (by simp only [List.length_append, List.length_cons, List.length_nil]; omega) (by simp only [List.length_append, List.length_cons, List.length_nil]; omega) fun s40 hs40 hl40 => ?_
   refine sq_r (ry_assign rfl) ?_
   refine sq_nil ?_
   refine ex_block ?_
   refine ex_then ?_
   refine cw_region ?_
   refine sq_r (ry_add rfl rfl (by omega)) ?_
   refine sq_r (ry_move rfl) ?_
   refine sq_nil ?_
   exact ex_again (x := (i, o, q)) (i + 1, s40, q ++ [x]) ⟨by first | omega | (simp only []; omega), by rw [ddF_no hx hne, ← hi2]⟩ (by simp only; omega) (Sub.cons rfl (Sub.cons rfl (Sub.cons rfl (Sub.cons rfl (Sub.cons rfl (Sub.nil _)))))) (fun w hw => Keep.mem hw)
 ·
  try simp only [bz0, bz1, bz2, bz3, bz4, bz5, bz6, bz7, bz8, bz9] at h0
  obtain rfl : i = x13.length := by omega
  refine cw_exit ?_
  refine ex_pass_exit ?_
  refine ex_pass_exit ?_
  refine ex_block_hit ?_
  refine ex_then ?_
  refine cw_seq ?_
  refine cw_region ?_
  refine sq_r (ry_move rfl) ?_
  refine sq_r (ry_assign rfl) ?_
  refine sq_nil ?_
  refine ex_then ?_
  refine cw_ret ?_
  refine ex_ret (.inl rfl) (res_1 rfl (rv_tmp rfl)) (fun w1 hw => ?_)
  exact ⟨o, rfl, trivial, by rw [hts, ← hi2]; exact Keep.mem hw⟩
instance tsort_i {w0 : World} {L : List Ent} {t : Sv} {ts : List Rt} [ht : HdE w0 L rcells 19 t ts] : FnC Try.prog 20 w0 L [t.val] (Sv) (fun zz => zz.val) (fun zz => own rcells 19 zz (tsortF ts) :: L) (fun zz => True) (ts.length ≤ 1000000) := ⟨fun hp w hw => (tsort_c w t ts (ht.h w hw) hp).mono fun e w' ⟨x, h1, h2, h3⟩ => ⟨x, h1, h2, hw.call h3⟩⟩
set_option maxRecDepth 20000 in
theorem rsort_c (w : World) (t : Sv) (ts : List Rt) (ht : Lies rcells 19 (hp w) t ts) (hpre : ts.length ≤ 90000) : Calls Try.prog 21 #[t.val] w fun e w' => ∃ zz : Sv, e = .returned (zz.val) ∧ (True) ∧ Mem w [own rcells 19 zz (rsortF ts)] w' := by
 have ght : Gv w t rcells 19 ts := ⟨ht⟩
 refine calls_of (args := [_]) Try.func21 rfl Try.ntmps21 rfl ?_
 change Cw _ _ _ _ _ [(0, t.val)] []
 refine cw_seq ?_
 refine cw_region ?_
 refine sq_r (ry_assign rfl) ?_
 refine sq_nil ?_
 refine ex_then ?_
 refine cw_seq ?_
 refine cw_region ?_
 refine sq_r (ry_assign rfl) ?_
 refine sq_nil ?_
 refine ex_then ?_
 refine cw_seq ?_
 refine cw_seq ?_
 refine cw_region ?_
 refine sq_r (ry_assign rfl) ?_
 refine sq_nil ?_
 refine ex_then ?_
 refine cw_block ?_
 refine cw_loop (X := Nat × Sv × List Rt) (fun zz => [(4, .int .i64 (zz.1 : Nat)), (3, zz.2.1.val), (0, t.val)]) (fun zz => [own rcells 19 zz.2.1 zz.2.2]) (fun zz => zz.1 ≤ ts.length ∧ zz.2.2 = rsortF (ts.take zz.1) ∧ zz.2.2.length ≤ zz.1) (fun zz => ts.length - zz.1) (0, Sv.none, []) ⟨Nat.zero_le _, rfl, Nat.le_refl _⟩ (Sub.cons rfl (Sub.cons rfl (Sub.cons rfl (Sub.nil _)))) (fun w hw => Mem.nilOwn rcells 19 (Keep.mem hw)) ?_
 rintro ⟨i, o, q⟩ ⟨hi1, hi2, hi3⟩
 dsimp only
 simp only at hi1 hi2 hi3
 refine cw_seq ?_
 refine cw_seq ?_
 refine cw_region ?_
 refine sq_r (ry_move rfl) ?_
 refine sq_r (ry_move rfl) ?_
 refine sq_r (ry_lenH rfl) ?_
 refine sq_r (ry_int rfl rfl rfl) ?_
 refine sq_nil ?_
 refine ex_then ?_
 refine cw_cond rfl (fun h0 => ?_) (fun h0 => ?_)
 ·
  try simp only [bz0, bz1, bz2, bz3, bz4, bz5, bz6, bz7, bz8, bz9] at h0
  refine cw_skip ?_
  refine ex_then ?_
  refine cw_seq ?_
  refine cw_block ?_
  refine cw_seq ?_
  refine cw_region ?_
  refine sq_r (ry_move rfl) ?_
  refine sq_r (ry_move rfl) ?_
  obtain ⟨x, hx⟩ := get_some (xs := ts) (i := i) (by omega)
  refine sq_r (ry_idxH rfl rfl i rfl (by omega)) ?_
  refine sq_r (ry_field rfl rfl) ?_
  refine sq_r (ry_elempH (j := 0) rfl i hx rfl (by decide)) ?_
  refine sq_y (yl_callC rfl trivial) ?_
  refine sq_nil ?_
  refine ex_then ?_
  refine cw_cond rfl (fun h1 => ?_) (fun h1 => ?_)
  ·
   try simp only [bz0, bz1, bz2, bz3, bz4, bz5, bz6, bz7, bz8, bz9] at h1
   refine cw_region ?_
   refine sq_r (ry_move rfl) ?_
   refine sq_r (ry_move rfl) ?_
   refine sq_r (ry_move rfl) ?_
   refine sq_r (ry_idxH rfl rfl i rfl (by omega)) ?_
   refine sq_r (ry_elemH rfl i hx rfl) ?_
   refine sq_callC rfl (by omega) fun x22 hp22 => ?_
   refine sq_r (ry_assign rfl) ?_
   refine sq_nil ?_
   refine ex_block ?_
   refine ex_then ?_
   refine cw_region ?_
   refine sq_r (ry_move rfl) ?_
   refine sq_r (ry_add rfl rfl (by omega)) ?_
   refine sq_r (ry_assign rfl) ?_
   refine sq_nil ?_
   exact ex_again (x := (i, o, q)) (i + 1, x22, putF x q false) ⟨by first | omega | (simp only []; omega), by rw [rsort_yes hx h1, ← hi2], by have := putF_len1 x q; simp only; omega⟩ (by simp only; omega) (Sub.cons rfl (Sub.cons rfl (Sub.cons rfl (Sub.nil _)))) (fun w hw => Keep.mem hw)
  ·
   try simp only [bz0, bz1, bz2, bz3, bz4, bz5, bz6, bz7, bz8, bz9] at h1
   refine cw_skip ?_
   refine ex_block ?_
   refine ex_then ?_
   refine cw_region ?_
   refine sq_r (ry_move rfl) ?_
   refine sq_r (ry_add rfl rfl (by omega)) ?_
   refine sq_r (ry_assign rfl) ?_
   refine sq_nil ?_
   exact ex_again (x := (i, o, q)) (i + 1, o, q) ⟨by first | omega | (simp only []; omega), by rw [rsort_no hx (by simpa using h1)]; exact hi2, by first | omega | (simp only []; omega)⟩ (by simp only; omega) (Sub.cons rfl (Sub.cons rfl (Sub.cons rfl (Sub.nil _)))) (fun w hw => Keep.mem hw)
 ·
  try simp only [bz0, bz1, bz2, bz3, bz4, bz5, bz6, bz7, bz8, bz9] at h0
  obtain rfl : i = ts.length := by omega
  refine cw_exit ?_
  refine ex_pass_exit ?_
  refine ex_pass_exit ?_
  refine ex_block_hit ?_
  refine ex_then ?_
  refine cw_seq ?_
  refine cw_region ?_
  refine sq_r (ry_move rfl) ?_
  refine sq_r (ry_assign rfl) ?_
  refine sq_nil ?_
  refine ex_then ?_
  refine cw_ret ?_
  refine ex_ret (.inl rfl) (res_1 rfl (rv_tmp rfl)) (fun w1 hw => ?_)
  exact ⟨o, rfl, trivial, by rw [hi2, List.take_length] at hw; exact Keep.mem hw⟩
instance rsort_i {w0 : World} {L : List Ent} {t : Sv} {ts : List Rt} [ht : HdE w0 L rcells 19 t ts] : FnC Try.prog 21 w0 L [t.val] (Sv) (fun zz => zz.val) (fun zz => own rcells 19 zz (rsortF ts) :: L) (fun zz => True) (ts.length ≤ 90000) := ⟨fun hp w hw => (rsort_c w t ts (ht.h w hw) hp).mono fun e w' ⟨x, h1, h2, h3⟩ => ⟨x, h1, h2, hw.call h3⟩⟩

end Go.Proofs.Ytldkgicmfbofiaa

