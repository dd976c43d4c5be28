/- Maps and iterators of package walk: instances. -/
import Derived.DeepKeys4
import Derived.Test.YtajhlgdapiihgaaMf
import Derived.Test.YtajhlgdapiihgaaMc
import Derived.Test.YtajhlgdapiihgaaMb

set_option linter.unusedSimpArgs false
set_option linter.unusedVariables false
namespace Go.Proofs.Ytajhlgdapiihgaa
open Go.Eng Go.Kb

instance : ZeroT Try.prog 4 (.bool false) := ⟨by kernel_rfl⟩
instance (n : Int) : BuildT Try.prog 26 [(1, .int .i64 n)] (.agg (pcells ⟨0, n, 0#128⟩)) := ⟨fun w => by unfold pcells; rw [kcells_zero]; kernel_rfl⟩
instance (p : Pfx) : BuildT Try.prog 30 [(0, .agg (pcells p))] (.agg (rcells ⟨p, 0⟩)) := ⟨fun w => by kernel_rfl⟩
def kPfx (p : Pfx) : Value := .agg (pcells p)
def vInt (n : Int) : Value := .int .i64 n
instance : InjE kPfx := ⟨fun h => pcells_inj (by simpa [kPfx] using h)⟩
theorem Try.outLaid : laidOutB Try.prog = true := by kernel_rfl
instance : KeyT Try.prog 26 := ⟨Maps.Keyed.of_law (deep_law_laid Try.outLaid (m := 4) (by omega) (of_decide_eq_true (by kernel_rfl)) (by kernel_rfl) (by kernel_rfl))⟩
theorem mapM_ex {α β : Type} {f : α → Option β} : ∀ {l : List α}, (∀ x ∈ l, ∃ y, f x = some y) → ∃ ys, l.mapM f = some ys
  | [], _ => ⟨[], rfl⟩
  | a :: l, h => by
    obtain ⟨y, hy⟩ := h a (by simp)
    obtain ⟨ys, hys⟩ := mapM_ex (l := l) fun x hx => h x (by simp [hx])
    exact ⟨y :: ys, by simp [List.mapM_cons, hy, hys]⟩
theorem lits_int {d : Nat} {t : TypeId} {q : IntKind} {n : Int} (hu : Try.prog.underlying t = some (.int q)) (hw : (Lit.int q n).wf = true) : ∃ l, Try.prog.keyLits (d + 1) t [.int q n] = some l := ⟨[.int q n], by unfold Program.keyLits; rw [hu]; simp [hw]⟩
theorem lits_key {d : Nat} (k : Key) : ∃ l, Try.prog.keyLits (d + 2) 24 (kcells k).toList = some l := by
  unfold Program.keyLits
  rw [Try.underlying24]
  simp only
  rw [if_pos (by rw [show Try.prog.cellsOf 24 = 16 from by kernel_rfl]; simp [kcells_size])]
  obtain ⟨ys, hys⟩ := mapM_ex (f := fun i => Try.prog.keyLits (d + 1) 5 (((kcells k).toList.drop (i * Try.prog.cellsOf 5)).take (Try.prog.cellsOf 5))) (l := List.range 16) fun i hi => by
    have hi := List.mem_range.1 hi
    rw [show Try.prog.cellsOf 5 = 1 from by kernel_rfl, Nat.mul_one]
    have e : ((kcells k).toList.drop i).take 1 = [.int .u8 (kbyte k i)] := by
      have h1 := kcells_get k i hi
      rw [List.take_one, List.head?_drop, Array.getElem?_toList, h1]; rfl
    rw [e]
    exact lits_int Try.underlying5 (by have := kbyte_lt k i; simp [Lit.wf, IntKind.min, IntKind.max, IntKind.signed, IntKind.bits]; omega)
  rw [hys]; exact ⟨_, rfl⟩
theorem key_pfx {p : Pfx} (h : pmay p = true) : ∃ l, keyOf Try.prog 26 (kPfx p) = some l := by
  obtain ⟨h1, h2, h3, _⟩ := (pmay_iff p).1 h
  have hb : (Lit.int .i64 p.bits).wf = true := by rcases h1 with e | e <;> rw [e] <;> decide
  have hl : (Lit.int .i64 p.len).wf = true := by simp [Lit.wf, IntKind.min, IntKind.max, IntKind.signed, IntKind.bits]; omega
  unfold keyOf
  rw [Try.underlying26]
  simp only
  have hf : (kPfx p).formed Try.prog 26 = true := by unfold kPfx Value.formed; rw [Try.underlying26]; simp only; rw [show Try.prog.cellsOf 26 = 18 from by kernel_rfl, pcells_size]; rfl
  rw [if_pos (by rw [hf, Bool.and_true]; kernel_rfl)]
  have hc : (Try.prog.cellsOf 3 = 1 ∧ Try.prog.cellsOf 3 = 1) ∧ Try.prog.cellsOf 24 = 16 ∧ Try.prog.cellsOf 26 = 18 := ⟨⟨by kernel_rfl, by kernel_rfl⟩, by kernel_rfl, by kernel_rfl⟩
  obtain ⟨l0, e0⟩ := lits_int (d := Try.prog.types.size - 1) (t := 3) Try.underlying3 hb
  obtain ⟨l1, e1⟩ := lits_int (d := Try.prog.types.size - 1) (t := 3) Try.underlying3 hl
  obtain ⟨l2, e2⟩ := lits_key (d := Try.prog.types.size - 2) p.key
  have hs : Try.prog.types.size = Try.prog.types.size - 1 + 1 := by have : 2 ≤ Try.prog.types.size := of_decide_eq_true (by kernel_rfl); omega
  have hs2 : Try.prog.types.size = Try.prog.types.size - 2 + 2 := by have : 2 ≤ Try.prog.types.size := of_decide_eq_true (by kernel_rfl); omega
  rw [← hs] at e0 e1
  rw [← hs2] at e2
  have key : ∃ ls, Try.prog.keyLits (Try.prog.types.size + 1) 26 (pcells p).toList = some ls := by
    unfold Program.keyLits
    rw [Try.underlying26]
    simp only
    rw [if_pos ⟨by rw [hc.2.2]; simp [pcells_size], by kernel_rfl⟩]
    have c0 : (((pcells p).toList.drop 0).take 1) = [.int .i64 p.bits] := by rw [List.take_one, List.head?_drop, Array.getElem?_toList, pcells_0]; rfl
    have c1 : (((pcells p).toList.drop 1).take 1) = [.int .i64 p.len] := by rw [List.take_one, List.head?_drop, Array.getElem?_toList, pcells_1]; rfl
    have c2 : (((pcells p).toList.drop 2).take 16) = (kcells p.key).toList := by
      refine List.ext_getElem? fun j => ?_
      rcases Nat.lt_or_ge j 16 with hj | hj
      · rw [List.getElem?_take_of_lt hj, List.getElem?_drop, Array.getElem?_toList, pcells_k]; simp
      · rw [List.getElem?_eq_none (by simp; omega), List.getElem?_eq_none (by simp [kcells_size]; omega)]
    simp only [List.mapM_cons, List.mapM_nil, hc.1.1, hc.1.2, hc.2.1, c0, c1, c2, e0, e1, e2]
    exact ⟨_, rfl⟩
  obtain ⟨ls, hls⟩ := key
  exact ⟨_, by show Option.map _ (Try.prog.keyLits (Try.prog.types.size + 1) 26 (pcells p).toList) = _; rw [hls]; rfl⟩
instance : MapT Try.prog 133 26 3 := ⟨Try.underlying133⟩
instance : ZeroT Try.prog 3 (vInt 0) := ⟨by kernel_rfl⟩
set_option maxRecDepth 20000 in
theorem cloneR_c (w : World) (s : Sv) (ss : List Rt) (hs : Lies rcells 19 (hp w) s ss) (hpre : ss.length ≤ 1000000) : Calls Try.prog 76 #[s.val] w fun e w' => ∃ zz : Sv, e = .returned (zz.val) ∧ (True) ∧ Mem w [own rcells 19 zz ss] w' := by
  have ghs : Gv w s rcells 19 ss := ⟨hs⟩
  refine calls_of (args := [_]) Try.func76 rfl Try.ntmps76 rfl ?_
  change Cw _ _ _ _ _ [(0, s.val)] []
  refine cw_seq ?_
  refine cw_region ?_
  refine sq_r (ry_assign rfl) ?_
  refine sq_nil ?_
  refine ex_then ?_
  refine cw_seq ?_
  refine cw_seq ?_
  refine cw_region ?_
  refine sq_r (ry_move rfl) ?_
  refine sq_r (ry_nilS Try.underlying22 rfl) ?_
  refine sq_nil ?_
  refine ex_then ?_
  refine cw_cond rfl (fun h0 => ?_) (fun h0 => ?_)
  · try simp only [Bool.and_eq_true, Bool.or_eq_true, Bool.and_eq_false_iff, Bool.or_eq_false_iff, Bool.not_eq_true', Bool.not_eq_false', decide_eq_true_eq, decide_eq_false_iff_not, Bool.not_eq_true, Bool.not_eq_false] at h0
    have e0 : ss = [] := List.length_eq_zero_iff.1 (by have := hs.ok.nil h0; have := hs.len; omega)
    refine cw_seq ?_
    refine cw_region ?_
    refine sq_r (ry_assign rfl) ?_
    refine sq_nil ?_
    refine ex_then ?_
    refine cw_ret ?_
    refine ex_pass_ret ?_
    refine ex_ret (.inl rfl) (res_1 rfl (rv_tmp rfl)) (fun w1 hw => ?_)
    exact ⟨Sv.none, rfl, trivial, by rw [e0]; exact (Keep.mem hw : Mem w [] _).nilOwn rcells 19⟩
  · try simp only [Bool.and_eq_true, Bool.or_eq_true, Bool.and_eq_false_iff, Bool.or_eq_false_iff, Bool.not_eq_true', Bool.not_eq_false', decide_eq_true_eq, decide_eq_false_iff_not, Bool.not_eq_true, Bool.not_eq_false] at h0
    refine cw_skip ?_
    refine ex_then ?_
    refine cw_seq ?_
    refine cw_region ?_
    refine sq_build0 rcells fun b5 => ?_
    refine sq_r (ry_move rfl) ?_
    refine sq_append (s := ⟨false, b5, 0, 0, 0, none⟩) (ys := ss) rfl rfl (by decide) (fun w hw => src_rows (s := s) Try.underlying22 (by decide) ((inferInstance : Hd _ _ s rcells 19 ss).h w hw)) (by simp only [List.length_append, List.length_cons, List.length_nil]; omega) (by simp only [List.length_append, List.length_cons, List.length_nil]; omega) fun s7 hs7 hl7 => ?_
    refine sq_r (ry_assign rfl) ?_
    refine sq_nil ?_
    refine ex_then ?_
    refine cw_ret ?_
    refine ex_ret (.inl rfl) (res_1 rfl (rv_tmp rfl)) (fun w1 hw => ?_)
    exact ⟨s7, rfl, trivial, by simpa using hw⟩
instance cloneR_i {w0 : World} {L : List Ent} {s : Sv} {ss : List Rt} [hs : HdE w0 L rcells 19 s ss] : FnC Try.prog 76 w0 L [s.val] (Sv) (fun zz => zz.val) (fun zz => own rcells 19 zz ss :: L) (fun zz => True) (ss.length ≤ 1000000) := ⟨fun hp w hw => (cloneR_c w s ss (hs.h w hw) hp).mono fun e w' ⟨x, h1, h2, h3⟩ => ⟨x, h1, h2, hw.call h3⟩⟩
set_option maxRecDepth 20000 in
theorem backward1_it {b1 : Nat} {t : Sv} {ts : List Rt}  : Iter Try.prog 154 #[.pointer (some ⟨b1, 0, none⟩)] (fun k => [.int .i64 ((ts.length : Int) - 1 - (k : Nat)), .agg (rcells (ts.getD (ts.length - 1 - k) zroute))].toArray) ts.length (fun w => w.cell? ⟨b1, 0, none⟩ = some t.val ∧ Lies rcells 19 (hp w) t ts) := by
  intro l J Jx W0 hJ hJx hN hY h0
  change Calls _ _ ([.func (.yield l) #[] #[], .pointer (some ⟨b1, 0, none⟩)] : List Value).toArray _ _
  obtain ⟨n1, n3⟩ := hN 0 W0 h0
  have gt : Gv W0 t rcells 19 ts := ⟨n3⟩
  have hbd := n3.bd
  refine calls_of (args := [_, _]) Try.func154 rfl Try.ntmps154 rfl ?_
  change Cw _ _ _ _ _ [(0, .func (.yield l) #[] #[]), (1, .pointer (some ⟨b1, 0, none⟩))] []
  refine cw_seq ?_
  refine cw_region ?_
  refine sq_r (ry_old rfl n1) ?_
  refine sq_r (ry_lenH rfl) ?_
  refine sq_r (ry_sub rfl rfl (by omega)) ?_
  refine sq_r (ry_assign rfl) ?_
  refine sq_nil ?_
  refine ex_then ?_
  refine cw_block ?_
  refine cw_iter (X := Nat) (fun zz => [(3, .int .i64 ((ts.length : Int) - 1 - (zz : Nat))), (0, .func (.yield l) #[] #[]), (1, .pointer (some ⟨b1, 0, none⟩))]) (fun zz w => zz ≤ ts.length ∧ J zz w) (fun zz => ts.length - zz) 0 (Sub.cons (look_eq rfl (by simp)) (Sub.cons rfl (Sub.cons rfl (Sub.nil _)))) (fun w hw => ⟨Nat.zero_le _, hJ _ _ _ h0 hw.below⟩) ?_
  rintro i W ⟨hi, hj⟩
  obtain ⟨n1, n3⟩ := hN i W hj
  have gt : Gv W t rcells 19 ts := ⟨n3⟩
  have hbd := n3.bd
  refine cw_seq ?_
  refine cw_seq ?_
  refine cw_region ?_
  refine sq_r (ry_move rfl) ?_
  refine sq_r (ry_int rfl rfl rfl) ?_
  refine sq_nil ?_
  refine ex_then ?_
  refine cw_cond rfl (fun h0 => ?_) (fun h0 => ?_)
  · try simp only [Bool.and_eq_true, Bool.or_eq_true, Bool.and_eq_false_iff, Bool.or_eq_false_iff, Bool.not_eq_true', Bool.not_eq_false', decide_eq_true_eq, decide_eq_false_iff_not, Bool.not_eq_true, Bool.not_eq_false] at h0
    have him : i < ts.length := by omega
    refine cw_skip ?_
    refine ex_then ?_
    refine cw_seq ?_
    refine cw_block ?_
    refine cw_seq ?_
    refine cw_yields ?_
    refine si_r (ry_move rfl) ?_
    refine si_r (ry_move rfl) ?_
    refine si_r (ry_old rfl n1) ?_
    refine si_r (ry_move rfl) ?_
    refine si_r (ry_idxH rfl rfl (ts.length - 1 - i) (by omega) (by omega)) ?_
    refine si_r (ry_elemH rfl (ts.length - 1 - i) (get_getD (xs := ts) (i := ts.length - 1 - i) (d := zroute) (by omega)) rfl) ?_
    refine si_yield (vs := [.int .i64 ((ts.length : Int) - 1 - (i : Nat)), .agg (rcells (ts.getD (ts.length - 1 - i) zroute))]) rfl rfl (fun w hw => hY i w him (hJ _ _ _ hj hw.below)) (fun W2 hJ2 => ?_) (fun W2 hJ2 => ?_)
    · refine si_r (ry_not rfl) ?_
      refine si_nil ?_
      refine ex_then ?_
      refine cw_cond rfl (fun h1 => ?_) (fun h1 => ?_)
      · exfalso; simp at h1
      · try simp only [Bool.and_eq_true, Bool.or_eq_true, Bool.and_eq_false_iff, Bool.or_eq_false_iff, Bool.not_eq_true', Bool.not_eq_false', decide_eq_true_eq, decide_eq_false_iff_not, Bool.not_eq_true, Bool.not_eq_false] at h1
        refine cw_skip ?_
        refine ex_block ?_
        refine ex_then ?_
        refine cw_region ?_
        refine sq_r (ry_move rfl) ?_
        refine sq_r (ry_sub rfl rfl (by omega)) ?_
        refine sq_r (ry_assign rfl) ?_
        refine sq_nil ?_
        exact ex_iter (i + 1) (by first | omega | (simp only []; omega)) (Sub.cons (look_eq rfl (by congr 1; omega)) (Sub.cons rfl (Sub.cons rfl (Sub.nil _)))) (fun w hw => ⟨by omega, hJ _ _ _ hJ2 hw.below⟩)
    · refine si_r (ry_not rfl) ?_
      refine si_nil ?_
      refine ex_then ?_
      refine cw_cond rfl (fun h1 => ?_) (fun h1 => ?_)
      · try simp only [Bool.and_eq_true, Bool.or_eq_true, Bool.and_eq_false_iff, Bool.or_eq_false_iff, Bool.not_eq_true', Bool.not_eq_false', decide_eq_true_eq, decide_eq_false_iff_not, Bool.not_eq_true, Bool.not_eq_false] at h1
        refine cw_ret ?_
        refine ex_block_ret ?_
        refine ex_pass_ret ?_
        refine ex_pass_ret ?_
        refine ex_block_ret ?_
        refine ex_ret (.inl rfl) (res_none rfl) (fun w1 hw => ?_)
        exact ⟨⟨_, rfl⟩, .inr ⟨_, hJx _ _ _ hJ2 hw.below⟩⟩
      · exfalso; simp at h1
  · try simp only [Bool.and_eq_true, Bool.or_eq_true, Bool.and_eq_false_iff, Bool.or_eq_false_iff, Bool.not_eq_true', Bool.not_eq_false', decide_eq_true_eq, decide_eq_false_iff_not, Bool.not_eq_true, Bool.not_eq_false] at h0
    obtain rfl : i = ts.length := by omega
    refine cw_exit ?_
    refine ex_pass_exit ?_
    refine ex_pass_exit ?_
    refine ex_block_hit ?_
    refine ex_ret (.inr rfl) (res_none rfl) (fun w1 hw => ?_)
    exact ⟨⟨_, rfl⟩, .inl (hJ _ _ _ hj hw.below)⟩
set_option maxRecDepth 20000 in
theorem backward_c (w : World) (s : Sv) (ss : List Rt) (hs : Lies rcells 19 (hp w) s ss) : Calls Try.prog 123 #[s.val] w fun e w' => ∃ zz : Nat, e = .returned (.func (.func 154) #[] #[.pointer (some ⟨zz, 0, none⟩)]) ∧ (True) ∧ Mem w [blk zz #[s.val] 22] w' := by
  have ghs : Gv w s rcells 19 ss := ⟨hs⟩
  refine calls_of (args := [_]) Try.func123 rfl Try.ntmps123 rfl ?_
  change Cw _ _ _ _ _ [(0, s.val)] []
  refine cw_seq ?_
  refine cw_region ?_
  refine sq_box1 (by first | rfl | exact Sv.cells_val _) rfl fun b1 => ?_
  refine sq_r (ry_assign rfl) ?_
  refine sq_nil ?_
  refine ex_then ?_
  refine cw_seq ?_
  refine cw_region ?_
  refine sq_r (ry_makeFunc rfl) ?_
  refine sq_r (ry_assign rfl) ?_
  refine sq_nil ?_
  refine ex_then ?_
  refine cw_ret ?_
  refine ex_ret (.inl rfl) (res_1 rfl (rv_tmp rfl)) (fun w1 hw => ?_)
  exact ⟨b1, rfl, trivial, Keep.mem hw⟩
instance backward_i {w0 : World} {L : List Ent} {s : Sv} {ss : List Rt} [hs : HdE w0 L rcells 19 s ss] : FnC Try.prog 123 w0 L [s.val] (Nat) (fun zz => .func (.func 154) #[] #[.pointer (some ⟨zz, 0, none⟩)]) (fun zz => blk zz #[s.val] 22 :: L) (fun zz => True) (True) := ⟨fun hp w hw => (backward_c w s ss (hs.h w hw)).mono fun e w' ⟨x, h1, h2, h3⟩ => ⟨x, h1, h2, hw.call h3⟩⟩

end Go.Proofs.Ytajhlgdapiihgaa

/- slices.Delete and slices.Insert of routes: walked. -/
set_option linter.unusedSimpArgs false
set_option linter.unusedVariables false
namespace Go.Proofs.Ytajhlgdapiihgaa
open Go.Eng Go.Kb
instance : OvF Try.prog 158 22 4 := ⟨⟨Try.f158, Try.func158, by kernel_rfl, by kernel_rfl, by kernel_rfl, by kernel_rfl⟩⟩
set_option maxRecDepth 20000 in
theorem sdelR_c (w0 w : World) (L : List Ent) (s : Sv) (ss : List Rt) (n : Nat) (m : Nat) (hw : Mem w0 (own rcells 19 s ss :: L) w) (hpre : n ≤ m ∧ m ≤ ss.length) : Calls Try.prog 135 #[s.val, .int .i64 (n : Nat), .int .i64 (m : Nat)] w fun e w' => ∃ zz : Sv, e = .returned (zz.val) ∧ (True) ∧ Mem w0 (own rcells 19 zz (ss.take n ++ ss.drop m) :: L) w' := by
  obtain ⟨hp1, hp2⟩ := hpre
  refine calls_in (args := [_, _, _]) Try.func135 rfl Try.ntmps135 rfl hw ?_
  change Cw _ _ _ _ _ [(0, s.val), (1, .int .i64 (n : Nat)), (2, .int .i64 (m : Nat))] (own rcells 19 s ss :: L)
  refine cw_seq ?_
  refine cw_region ?_
  refine sq_r (ry_assign rfl) ?_
  refine sq_nil ?_
  refine ex_then ?_
  refine cw_seq ?_
  refine cw_region ?_
  refine sq_r (ry_move rfl) ?_
  refine sq_r (ry_move rfl) ?_
  refine sq_r (ry_move rfl) ?_
  refine sq_r (ry_move rfl) ?_
  refine sq_r (ry_lenH rfl) ?_
  refine sq_r (ry_subH3 (l := n) (h := m) (m := ss.length) rfl rfl rfl rfl rfl rfl rfl (by omega) (by omega) (by omega)) ?_
  refine sq_nil ?_
  refine ex_then ?_
  refine cw_seq ?_
  refine cw_seq ?_
  refine cw_region ?_
  refine sq_r (ry_move rfl) ?_
  refine sq_r (ry_move rfl) ?_
  refine sq_r (ry_int rfl rfl rfl) ?_
  refine sq_nil ?_
  refine ex_then ?_
  refine cw_cond rfl (fun h0 => ?_) (fun h0 => ?_)
  · try simp only [Bool.and_eq_true, Bool.or_eq_true, Bool.and_eq_false_iff, Bool.or_eq_false_iff, Bool.not_eq_true', Bool.not_eq_false', decide_eq_true_eq, decide_eq_false_iff_not, Bool.not_eq_true, Bool.not_eq_false] at h0
    obtain rfl : n = m := by omega
    refine cw_seq ?_
    refine cw_region ?_
    refine sq_r (ry_move rfl) ?_
    refine sq_r (ry_assign rfl) ?_
    refine sq_nil ?_
    refine ex_then ?_
    refine cw_ret ?_
    refine ex_pass_ret ?_
    refine ex_ret (.inl rfl) (res_1 rfl (rv_tmp rfl)) (fun w1 hw => ?_)
    exact ⟨s, rfl, trivial, by rw [List.take_append_drop]; exact hw⟩
  · try simp only [Bool.and_eq_true, Bool.or_eq_true, Bool.and_eq_false_iff, Bool.or_eq_false_iff, Bool.not_eq_true', Bool.not_eq_false', decide_eq_true_eq, decide_eq_false_iff_not, Bool.not_eq_true, Bool.not_eq_false] at h0
    refine cw_skip ?_
    refine ex_then ?_
    refine cw_seq ?_
    refine cw_bd s fun hbd0 => ?_
    have hlt : n < m := by omega
    refine cw_open (s := s) inferInstance (by decide) (by omega) fun pre mid T hpl hcap hnil hsp hok hsl => ?_
    have hle := hok.le
    have hbd := hok.bd
    have hlv : (flatR rcells (ss.drop m)).length = (ss.length - m) * 19 := by rw [flatR_length, List.length_drop]
    have hlu : (flatR rcells (ss.take n)).length = n * 19 := by rw [flatR_length, List.length_take]; congr 1; omega
    have hlx : (flatR rcells ss).length = ss.length * 19 := flatR_length ss
    have exs : flatR rcells ss = flatR rcells (ss.take m) ++ flatR rcells (ss.drop m) := by rw [← flatR_app, List.take_append_drop]
    have hlm : (flatR rcells (ss.take m)).length = m * 19 := by rw [flatR_length, List.length_take]; congr 1; omega
    obtain ⟨X, hX⟩ : ∃ X, flatR rcells ss = flatR rcells (ss.take n) ++ X := ⟨flatR rcells (ss.drop n), by rw [← flatR_app, List.take_append_drop]⟩
    have hXl : n * 19 + X.length = ss.length * 19 := by rw [← hlx, hX, List.length_append, hlu]
    obtain ⟨r1, hr1⟩ : ∃ r : Sv, r = (⟨false, s.b, s.o, n + (ss.length - m), s.cap, none⟩ : Sv) := ⟨_, rfl⟩
    refine cw_region ?_
    refine sq_r (ry_move rfl) ?_
    refine sq_r (ry_lenS rfl hok hsl) ?_
    refine sq_r (ry_assign rfl) ?_
    refine sq_nil ?_
    refine ex_then ?_
    refine cw_seq ?_
    refine cw_tail 6 [] (by kernel_rfl) (by kernel_rfl) ?_
    simp only [List.take_succ_cons, List.take_zero]
    refine qt_r (ry_move rfl) ?_
    refine qt_r (ry_move rfl) ?_
    have rg22 : Rg 0 n ss.length := ⟨by omega⟩
    refine qt_r (ry_subS_hi (h := n) rfl rfl rfl hok (by omega)) ?_
    refine qt_r (ry_move rfl) ?_
    refine qt_r (ry_move rfl) ?_
    have rg25 : Rg m ss.length ss.length := ⟨by omega⟩
    refine qt_r (ry_subS_lo (l := m) (n := ss.length) rfl rfl rfl hok hsl (by omega)) ?_
    refine qt_end ?_
    refine fr_nil ?_
    simp only [List.drop_succ_cons, List.drop_zero]
    refine sq_appendB (D := s.sub 19 0 n) (S := s.sub 19 m ss.length) (b := s.b) (o := s.o + n * 19) (n := ss.length - m) (vs := flatR rcells (ss.drop m)) (R := r1) (cs' := (pre ++ (flatR rcells (ss.take n) ++ (flatR rcells (ss.drop m) ++ (X ++ mid).drop (flatR rcells (ss.drop m)).length))).toArray) rfl rfl hnil hsp rfl (by rw [Sv.sub_0]; rfl) hnil hsp rfl rfl hlv (by show n - 0 + _ ≤ s.cap - 0; omega) (fun w hw j v hj => by
      have hjl := (List.getElem?_eq_some_iff.1 hj).1
      rw [hlv] at hjl
      rw [Sv.sub_o (by omega)]
      show w.cell? ⟨s.b, _, none⟩ = _
      rw [hw.cell (inferInstance : Has _ s.b _ _ _).h, List.getElem?_toArray, List.getElem?_append_right (by omega), List.getElem?_append_left (by omega), exs, List.getElem?_append_right (by omega), ← hj]
      congr 1; omega) (flatR_one _) (by simp only [List.size_toArray, List.length_append]; omega) (by rw [hX, List.append_assoc, ← List.append_assoc pre, over_cat (by rw [List.length_append]; omega), List.append_assoc]) (by rw [hr1, Sv.sub_0]; rfl) ?_
    refine sq_r (ry_assign rfl) ?_
    refine sq_nil ?_
    refine ex_then ?_
    refine cw_seq ?_
    refine cw_region ?_
    refine sq_r (ry_move rfl) ?_
    refine sq_r (ry_move rfl) ?_
    refine sq_r (ry_lenS (n := n + (ss.length - m)) (s := r1) rfl (by rw [hr1]; exact ⟨(fun h => by cases h), by simp only; omega, by simp only; omega, fun _ => rfl⟩) (by rw [hr1])) ?_
    refine sq_r (ry_move rfl) ?_
    refine sq_r (ry_subS (s := r1) (l := n + (ss.length - m)) (h := ss.length) rfl rfl rfl rfl rfl (by rw [hr1]; exact ⟨(fun h => by cases h), by simp only; omega, by simp only; omega, fun _ => rfl⟩) (by omega) (by rw [hr1]; simp only; omega)) ?_
    refine sq_clearB (D := r1.sub 19 (n + (ss.length - m)) ss.length) (b := s.b) (o := s.o + (n + (ss.length - m)) * 19) (n := m - n) (z := .agg (rcells zroute)) rfl (by rw [hr1]; rfl) (by rw [hr1]; rfl) (by rw [hr1]; rfl) (by rw [hr1, Sv.sub_o (by show _ < s.cap; omega)]) (by show ss.length - (n + (ss.length - m)) = _; omega) (by omega) (show (rcells zroute).all (·.oneCell') = true from (inferInstance : Enc rcells 19).one zroute) (by simp only [List.size_toArray, List.length_append, List.length_drop]; omega) fun Z hZ => ?_
    refine sq_nil ?_
    refine ex_then ?_
    refine cw_seq ?_
    refine cw_region ?_
    refine sq_r (ry_move rfl) ?_
    refine sq_r (ry_assign rfl) ?_
    refine sq_nil ?_
    refine ex_then ?_
    refine cw_ret ?_
    refine ex_ret (.inl rfl) (res_1 rfl (rv_tmp rfl)) (fun w1 hw => ?_)
    refine ⟨r1, rfl, trivial, ?_⟩
    rw [show (pre ++ (flatR rcells (ss.take n) ++ (flatR rcells (ss.drop m) ++ (X ++ mid).drop (flatR rcells (ss.drop m)).length))) = (pre ++ (flatR rcells (ss.take n) ++ flatR rcells (ss.drop m))) ++ (X ++ mid).drop (flatR rcells (ss.drop m)).length from by simp only [List.append_assoc], over_cat (A := pre ++ (flatR rcells (ss.take n) ++ flatR rcells (ss.drop m))) (by simp only [List.length_append]; omega), ← flatR_app, List.append_assoc pre] at hw
    have hw2 := own_shut (enc := rcells) (i := 0) (xs := ss.take n ++ ss.drop m) (pre := pre) hw rfl r1 (by rw [hr1]; exact ⟨(fun h => by cases h), by simp only; omega, by simp only; omega, fun _ => rfl⟩) (by rw [hr1]) (by rw [hr1]) (by rw [hr1]) (by rw [hr1]; exact hpl.symm) (by rw [hr1]; simp only [List.length_append, List.length_take, List.length_drop]; omega) (by rw [hr1]; simp only [List.length_append, List.length_take, List.length_drop]; omega)
    exact hw2
instance sdelR_i {w0 : World} {L R : List Ent} {i : Nat} {s : Sv} {ss : List Rt} {n : Nat} {m : Nat} [q : Owns L s rcells 19 ss i] [d : DelI L i R] : FnC Try.prog 135 w0 L [s.val, .int .i64 (n : Nat), .int .i64 (m : Nat)] (Sv) (fun zz => zz.val) (fun zz => own rcells 19 zz (ss.take n ++ ss.drop m) :: R) (fun zz => True) (n ≤ m ∧ m ≤ ss.length) := ⟨fun hp w hw => sdelR_c w0 w R s ss n m (mem_one q.h d.h hw) hp⟩
set_option maxRecDepth 20000 in
theorem sinsR_c (w0 w : World) (L : List Ent) (s : Sv) (ss : List Rt) (v : Sv) (r : Rt) (n : Nat) (hw : Mem w0 (own rcells 19 s ss :: own rcells 19 v [r] :: L) w) (hpre : n ≤ ss.length ∧ ss.length ≤ 1000000) : Calls Try.prog 136 #[s.val, .int .i64 (n : Nat), v.val] w fun e w' => ∃ zz : Sv, e = .returned (zz.val) ∧ (True) ∧ Mem w0 (own rcells 19 zz (ss.take n ++ r :: ss.drop n) :: L) w' := by
  obtain ⟨hp1, hp2⟩ := hpre
  refine calls_in (args := [_, _, _]) Try.func136 rfl Try.ntmps136 rfl hw ?_
  change Cw _ _ _ _ _ [(0, s.val), (1, .int .i64 (n : Nat)), (2, v.val)] (own rcells 19 s ss :: own rcells 19 v [r] :: L)
  refine cw_seq ?_
  refine cw_region ?_
  refine sq_r (ry_assign rfl) ?_
  refine sq_nil ?_
  refine ex_then ?_
  refine cw_seq ?_
  refine cw_region ?_
  refine sq_r (ry_move rfl) ?_
  refine sq_r (ry_move rfl) ?_
  have rg12 : Rg n ss.length ss.length := ⟨by omega⟩
  refine sq_r (ry_subH_lo rfl rfl n rfl rg12.h.1) ?_
  refine sq_nil ?_
  refine ex_then ?_
  refine cw_seq ?_
  refine cw_region ?_
  refine sq_r (ry_move rfl) ?_
  refine sq_r (Ry.to (v' := .int .i64 (1 : Nat)) (ry_lenH rfl) rfl) ?_
  refine sq_r (ry_assign rfl) ?_
  refine sq_nil ?_
  refine ex_then ?_
  refine cw_seq ?_
  refine cw_seq ?_
  refine cw_region ?_
  refine sq_r (ry_move rfl) ?_
  refine sq_r (ry_int rfl rfl rfl) ?_
  refine sq_nil ?_
  refine ex_then ?_
  refine cw_cond rfl (fun h0 => ?_) (fun h0 => ?_)
  · try simp only [Bool.and_eq_true, Bool.or_eq_true, Bool.and_eq_false_iff, Bool.or_eq_false_iff, Bool.not_eq_true', Bool.not_eq_false', decide_eq_true_eq, decide_eq_false_iff_not, Bool.not_eq_true, Bool.not_eq_false] at h0
    exfalso; omega
  · try simp only [Bool.and_eq_true, Bool.or_eq_true, Bool.and_eq_false_iff, Bool.or_eq_false_iff, Bool.not_eq_true', Bool.not_eq_false', decide_eq_true_eq, decide_eq_false_iff_not, Bool.not_eq_true, Bool.not_eq_false] at h0
    refine cw_skip ?_
    refine ex_then ?_
    refine cw_seq ?_
    refine cw_region ?_
    refine sq_r (ry_move rfl) ?_
    refine sq_r (ry_lenH rfl) ?_
    refine sq_r (ry_assign rfl) ?_
    refine sq_nil ?_
    refine ex_then ?_
    refine cw_seq ?_
    refine cw_seq ?_
    refine cw_region ?_
    refine sq_r (ry_move rfl) ?_
    refine sq_r (ry_move rfl) ?_
    refine sq_r (ry_int rfl rfl rfl) ?_
    refine sq_nil ?_
    refine ex_then ?_
    refine cw_cond rfl (fun h1 => ?_) (fun h1 => ?_)
    · try simp only [Bool.and_eq_true, Bool.or_eq_true, Bool.and_eq_false_iff, Bool.or_eq_false_iff, Bool.not_eq_true', Bool.not_eq_false', decide_eq_true_eq, decide_eq_false_iff_not, Bool.not_eq_true, Bool.not_eq_false] at h1
      refine cw_seq ?_
      refine cw_region ?_
      refine sq_r (ry_move rfl) ?_
      refine sq_r (ry_move rfl) ?_
      refine sq_append (s := s) (ys := [r]) rfl rfl (by decide) (fun w hw => src_rows (s := v) Try.underlying22 (by decide) ((inferInstance : Hd _ _ v rcells 19 [r]).h w hw)) (by simp only [List.length_cons, List.length_nil]; omega) (by simp only [List.length_cons, List.length_nil]; omega) fun s25 hs25 hl25 => ?_
      refine sq_r (ry_assign rfl) ?_
      refine sq_nil ?_
      refine ex_then ?_
      refine cw_ret ?_
      refine ex_pass_ret ?_
      refine ex_ret (.inl rfl) (res_1 rfl (rv_tmp rfl)) (fun w1 hw => ?_)
      exact ⟨s25, rfl, trivial, by rw [List.take_of_length_le (by omega), List.drop_of_length_le (by omega)]; exact Keep.mem hw⟩
    · try simp only [Bool.and_eq_true, Bool.or_eq_true, Bool.and_eq_false_iff, Bool.or_eq_false_iff, Bool.not_eq_true', Bool.not_eq_false', decide_eq_true_eq, decide_eq_false_iff_not, Bool.not_eq_true, Bool.not_eq_false] at h1
      refine cw_skip ?_
      refine ex_then ?_
      refine cw_seq ?_
      refine cw_seq ?_
      have hlt : n < ss.length := by omega
      refine cw_owned (s := v) (enc := rcells) inferInstance (by simp) fun hvn hvs hvok hvl => ?_
      have hvl1 : v.len = 1 := hvl
      refine cw_open (s := s) inferInstance (by decide) (by omega) fun pre mid T hpl hcap hnil hsp hok hsl => ?_
      have hle := hok.le
      have hbd := hok.bd
      obtain ⟨x, hx⟩ := get_some (xs := ss) (i := n) (by omega)
      have hA : (flatR rcells (ss.take n)).length = n * 19 := by rw [flatR_length, List.length_take]; congr 1; omega
      have hB : (flatR rcells (ss.drop n)).length = (ss.length - n) * 19 := by rw [flatR_length, List.length_drop]
      have hr0 : (flatR rcells [r]).length = 19 := by rw [flatR_length]; rfl
      have he0 : (flatR rcells [x]).length = 19 := by rw [flatR_length]; rfl
      have hss : flatR rcells ss = (flatR rcells (ss.take n)) ++ (flatR rcells (ss.drop n)) := by rw [← flatR_app, List.take_append_drop]
      have hBe : (flatR rcells (ss.drop n)) = (flatR rcells [x]) ++ (flatR rcells (ss.drop (n + 1))) := by rw [← flatR_app, List.drop_eq_getElem_cons hlt, show ss[n] = x from (List.getElem?_eq_some_iff.1 hx).2]; rfl
      have hlx : (flatR rcells ss).length = ss.length * 19 := flatR_length ss
      have hfin : flatR rcells (ss.take n ++ r :: ss.drop n) = (flatR rcells (ss.take n)) ++ ((flatR rcells [r]) ++ (flatR rcells (ss.drop n))) := by rw [flatR_app, ← flatR_app [r]]; rfl
      have hlf : (ss.take n ++ r :: ss.drop n).length = ss.length + 1 := by simp only [List.length_append, List.length_take, List.length_cons, List.length_drop]; omega
      have hcs : ∀ (w1 : World) L', Mem w0 (blk s.b (pre ++ (flatR rcells ss ++ mid)).toArray T :: L') w1 → ∀ j u, (flatR rcells ss)[j]? = some u → w1.cell? ⟨s.b, s.o + j, none⟩ = some u := fun w1 L' hw1 j u hj => blk_cells hw1 hpl hj
      refine cw_region ?_
      refine sq_r (ry_move rfl) ?_
      refine sq_r (ry_move rfl) ?_
      refine sq_r (ry_add rfl rfl (by omega)) ?_
      refine sq_r (ry_move rfl) ?_
      refine sq_r (ry_capSv (n := s.cap) rfl hnil rfl) ?_
      refine sq_r (ry_int rfl rfl rfl) ?_
      refine sq_nil ?_
      refine ex_then ?_
      refine cw_cond rfl (fun h2 => ?_) (fun h2 => ?_)
      · try simp only [Bool.and_eq_true, Bool.or_eq_true, Bool.and_eq_false_iff, Bool.or_eq_false_iff, Bool.not_eq_true', Bool.not_eq_false', decide_eq_true_eq, decide_eq_false_iff_not, Bool.not_eq_true, Bool.not_eq_false] at h2
        refine cw_seq ?_
        refine cw_region ?_
        refine sq_r (ry_move rfl) ?_
        refine sq_r (ry_move rfl) ?_
        refine sq_r (ry_subS_hi (h := n) rfl rfl rfl hok (by omega)) ?_
        refine sq_r (ry_move rfl) ?_
        refine sq_r (ry_move rfl) ?_
        refine sq_r (ry_add rfl rfl (by omega)) ?_
        refine sq_r (ry_move rfl) ?_
        refine sq_r (ry_sub rfl rfl (by omega)) ?_
        refine sq_appendZ (D := s.sub 19 0 n) (k := ss.length + 1 - n) (p := n) (m := ss.length + 1) (olds := (flatR rcells (ss.take n))) rfl (by omega) rfl rfl (by omega) (by omega) hnil hsp (by decide) Try.underlying3 hA (fun w hw j u hj => by
          have hjl := (List.getElem?_eq_some_iff.1 hj).1
          rw [Sv.sub_0]
          exact hcs w _ hw j u (by rw [hss, List.getElem?_append_left hjl]; exact hj)) (by show s.cap - 0 < n - 0 + _; omega) (by show (n - 0 + _) * _ ≤ _; omega) (by show n - 0 + _ ≤ _; omega) fun b40 C40 Z40 hC40 hZ40 => ?_
        refine sq_r (ry_assign rfl) ?_
        refine sq_nil ?_
        refine ex_then ?_
        refine cw_seq ?_
        refine cw_region ?_
        refine sq_r (ry_move rfl) ?_
        refine sq_r (ry_move rfl) ?_
        refine sq_r (ry_subS_lo (s := (⟨false, b40, 0, ss.length + 1, C40, none⟩ : Sv)) (l := n) (n := ss.length + 1) rfl rfl rfl ⟨(fun h => by cases h), by simp only; omega, by simp only; omega, fun _ => rfl⟩ rfl (by omega)) ?_
        refine sq_r (ry_move rfl) ?_
        refine sq_copyB (D := (⟨false, b40, 0, ss.length + 1, C40, none⟩ : Sv).sub 19 n (ss.length + 1)) (S := v) (b := b40) (o := n * 19) (n := 1) (vs := (flatR rcells [r])) (cs' := ((flatR rcells (ss.take n)) ++ ((flatR rcells [r]) ++ Z40.drop 19)).toArray) rfl rfl rfl rfl rfl (by rw [Sv.sub_o (by show n < C40; omega)]; exact Nat.zero_add _) hvn hvs (by rw [hvl1]; exact min_l (b := ss.length + 1 - n) (by omega)) (by rw [hr0]) (fun w hw j u hj => own_cells (enc := rcells) (xs := [r]) (by decide) inferInstance hw hj) (flatR_one _) (by simp only [List.size_toArray, List.length_append]; omega) (by rw [over_cat (A := (flatR rcells (ss.take n))) hA.symm, hr0]) ?_
        refine sq_nil ?_
        refine ex_then ?_
        refine cw_seq ?_
        refine cw_tail 8 [] (by kernel_rfl) (by kernel_rfl) ?_
        simp only [List.take_succ_cons, List.take_zero]
        refine qt_r (ry_move rfl) ?_
        refine qt_r (ry_move rfl) ?_
        refine qt_r (ry_move rfl) ?_
        refine qt_r (ry_add rfl rfl (by omega)) ?_
        refine qt_r (ry_subS_lo (s := (⟨false, b40, 0, ss.length + 1, C40, none⟩ : Sv)) (l := n + 1) (n := ss.length + 1) rfl rfl rfl ⟨(fun h => by cases h), by simp only; omega, by simp only; omega, fun _ => rfl⟩ rfl (by omega)) ?_
        refine qt_r (ry_move rfl) ?_
        refine qt_r (ry_move rfl) ?_
        refine qt_r (ry_subS_lo (l := n) (n := ss.length) rfl rfl rfl hok hsl (by omega)) ?_
        refine qt_end ?_
        refine fr_nil ?_
        simp only [List.drop_succ_cons, List.drop_zero]
        refine sq_copyB (D := (⟨false, b40, 0, ss.length + 1, C40, none⟩ : Sv).sub 19 (n + 1) (ss.length + 1)) (S := s.sub 19 n ss.length) (b := b40) (o := (n + 1) * 19) (n := ss.length - n) (vs := (flatR rcells (ss.drop n))) (cs' := (((flatR rcells (ss.take n)) ++ (flatR rcells [r])) ++ ((flatR rcells (ss.drop n)) ++ (Z40.drop 19).drop (flatR rcells (ss.drop n)).length)).toArray) rfl rfl rfl rfl rfl (by rw [Sv.sub_o (by show n + 1 < C40; omega)]; exact Nat.zero_add _) hnil hsp (min_l (a := ss.length - n) (b := ss.length + 1 - (n + 1)) (by omega)) hB (fun w hw j u hj => by
          rw [Sv.sub_o (by omega), Nat.add_assoc]
          exact hcs w _ (hw.sub (by first | exact List.Sublist.refl _ | exact List.sublist_cons_self _ _)) (n * 19 + j) u (by rw [hss, List.getElem?_append_right (by omega), hA, Nat.add_sub_cancel_left]; exact hj)) (flatR_one _) (by simp only [List.size_toArray, List.length_append, List.length_drop]; omega) (by rw [← List.append_assoc, over_cat (A := (flatR rcells (ss.take n)) ++ (flatR rcells [r])) (by rw [List.length_append, hA, hr0]; omega)]) ?_
        refine sq_nil ?_
        refine ex_then ?_
        refine cw_seq ?_
        refine cw_region ?_
        refine sq_r (ry_move rfl) ?_
        refine sq_r (ry_assign rfl) ?_
        refine sq_nil ?_
        refine ex_then ?_
        refine cw_ret ?_
        refine ex_pass_ret ?_
        refine ex_ret (.inl rfl) (res_1 rfl (rv_tmp rfl)) (fun w1 hw => ?_)
        refine ⟨(⟨false, b40, 0, ss.length + 1, C40, none⟩ : Sv), rfl, trivial, ?_⟩
        rw [show ((flatR rcells (ss.take n)) ++ (flatR rcells [r])) ++ ((flatR rcells (ss.drop n)) ++ (Z40.drop 19).drop (flatR rcells (ss.drop n)).length) = [] ++ (flatR rcells (ss.take n ++ r :: ss.drop n) ++ (Z40.drop 19).drop (flatR rcells (ss.drop n)).length) from by rw [hfin]; simp only [List.append_assoc, List.nil_append]] at hw
        have hw2 := own_shut (enc := rcells) (i := 0) (xs := ss.take n ++ r :: ss.drop n) (pre := []) (mid := (Z40.drop 19).drop (flatR rcells (ss.drop n)).length) hw rfl (⟨false, b40, 0, ss.length + 1, C40, none⟩ : Sv) ⟨(fun h => by cases h), by simp only; omega, by simp only; omega, fun _ => rfl⟩ rfl rfl rfl rfl (by rw [hlf]) (by rw [hlf]; simp only [List.length_nil, List.length_drop]; omega)
        rw [List.set_cons_zero] at hw2
        exact Keep.mem hw2
      · try simp only [Bool.and_eq_true, Bool.or_eq_true, Bool.and_eq_false_iff, Bool.or_eq_false_iff, Bool.not_eq_true', Bool.not_eq_false', decide_eq_true_eq, decide_eq_false_iff_not, Bool.not_eq_true, Bool.not_eq_false] at h2
        obtain ⟨s1, hs1⟩ : ∃ z : Sv, z = ⟨false, s.b, s.o, ss.length + 1, s.cap, none⟩ := ⟨_, rfl⟩
        refine cw_skip ?_
        refine ex_then ?_
        refine cw_seq ?_
        refine cw_region ?_
        refine sq_r (ry_move rfl) ?_
        refine sq_r (ry_move rfl) ?_
        refine sq_r (ry_move rfl) ?_
        refine sq_r (ry_add rfl rfl (by omega)) ?_
        refine sq_r (Ry.to (v' := s1.val) (ry_subS_hi (h := ss.length + 1) rfl rfl rfl hok (by omega)) (by rw [hs1, Sv.sub_eq hnil hsp])) ?_
        refine sq_r (ry_assign rfl) ?_
        refine sq_nil ?_
        refine ex_then ?_
        refine cw_seq ?_
        refine cw_seq ?_
        refine cw_region ?_
        refine sq_r (ry_move rfl) ?_
        refine sq_r (ry_move rfl) ?_
        refine sq_r (ry_move rfl) ?_
        refine sq_r (ry_move rfl) ?_
        refine sq_r (ry_add rfl rfl (by omega)) ?_
        refine sq_r (ry_subS_lo (s := s1) (l := n + 1) (n := ss.length + 1) rfl rfl rfl (by rw [hs1]; exact ⟨(fun h => by cases h), by simp only; omega, by simp only; omega, fun _ => rfl⟩) (by rw [hs1]) (by omega)) ?_
        refine sq_r (ry_overlaps (V := v) (D := s1.sub 19 (n + 1) (ss.length + 1)) (b := s.b) (xs := [r]) rfl rfl (by decide) (by simp) (by rw [hs1]; rfl) (by rw [hs1]; rfl) (by rw [hs1]; rfl) (by simp only [List.size_toArray, List.length_append]; omega)) ?_
        refine sq_r (ry_not rfl) ?_
        refine sq_nil ?_
        refine ex_then ?_
        refine cw_cond rfl (fun h3 => ?_) (fun h3 => ?_)
        · try simp only [Bool.and_eq_true, Bool.or_eq_true, Bool.and_eq_false_iff, Bool.or_eq_false_iff, Bool.not_eq_true', Bool.not_eq_false', decide_eq_true_eq, decide_eq_false_iff_not, Bool.not_eq_true, Bool.not_eq_false] at h3
          refine cw_seq ?_
          refine cw_tail 8 [] (by kernel_rfl) (by kernel_rfl) ?_
          simp only [List.take_succ_cons, List.take_zero]
          refine qt_r (ry_move rfl) ?_
          refine qt_r (ry_move rfl) ?_
          refine qt_r (ry_move rfl) ?_
          refine qt_r (ry_add rfl rfl (by omega)) ?_
          refine qt_r (ry_subS_lo (s := s1) (l := n + 1) (n := ss.length + 1) rfl rfl rfl (by rw [hs1]; exact ⟨(fun h => by cases h), by simp only; omega, by simp only; omega, fun _ => rfl⟩) (by rw [hs1]) (by omega)) ?_
          refine qt_r (ry_move rfl) ?_
          refine qt_r (ry_move rfl) ?_
          refine qt_r (ry_subS_lo (s := s1) (l := n) (n := ss.length + 1) rfl rfl rfl (by rw [hs1]; exact ⟨(fun h => by cases h), by simp only; omega, by simp only; omega, fun _ => rfl⟩) (by rw [hs1]) (by omega)) ?_
          refine qt_end ?_
          refine fr_nil ?_
          simp only [List.drop_succ_cons, List.drop_zero]
          refine sq_copyB (D := s1.sub 19 (n + 1) (ss.length + 1)) (S := s1.sub 19 n (ss.length + 1)) (b := s.b) (o := s.o + (n + 1) * 19) (n := ss.length - n) (vs := (flatR rcells (ss.drop n))) (cs' := (pre ++ ((flatR rcells (ss.take n)) ++ ((flatR rcells [x]) ++ ((flatR rcells (ss.drop n)) ++ ((flatR rcells (ss.drop (n + 1))) ++ mid).drop (flatR rcells (ss.drop n)).length)))).toArray) rfl rfl (by rw [hs1]; rfl) (by rw [hs1]; rfl) (by rw [hs1]; rfl) (by rw [hs1, Sv.sub_o (by show _ < s.cap; omega)]) (by rw [hs1]; rfl) (by rw [hs1]; rfl) (by rw [show ss.length - n = ss.length + 1 - (n + 1) from by omega]; exact min_r (a := ss.length + 1 - n) (by omega)) hB (fun w hw j u hj => by
            rw [hs1, Sv.sub_o (by show _ < s.cap; omega), Nat.add_assoc]
            exact hcs w _ hw (n * 19 + j) u (by rw [hss, List.getElem?_append_right (by omega), hA, Nat.add_sub_cancel_left]; exact hj)) (flatR_one _) (by simp only [List.size_toArray, List.length_append]; omega) (by
            rw [hss, show pre ++ (((flatR rcells (ss.take n)) ++ (flatR rcells (ss.drop n))) ++ mid) = (pre ++ ((flatR rcells (ss.take n)) ++ (flatR rcells [x]))) ++ ((flatR rcells (ss.drop (n + 1))) ++ mid) from by rw [hBe]; simp only [List.append_assoc], over_cat (A := pre ++ ((flatR rcells (ss.take n)) ++ (flatR rcells [x]))) (by simp only [List.length_append]; omega)]; simp only [List.append_assoc]) ?_
          refine sq_nil ?_
          refine ex_then ?_
          refine cw_seq ?_
          refine cw_region ?_
          refine sq_r (ry_move rfl) ?_
          refine sq_r (ry_move rfl) ?_
          refine sq_r (ry_subS_lo (s := s1) (l := n) (n := ss.length + 1) rfl rfl rfl (by rw [hs1]; exact ⟨(fun h => by cases h), by simp only; omega, by simp only; omega, fun _ => rfl⟩) (by rw [hs1]) (by omega)) ?_
          refine sq_r (ry_move rfl) ?_
          refine sq_copyB (D := s1.sub 19 n (ss.length + 1)) (S := v) (b := s.b) (o := s.o + n * 19) (n := 1) (vs := (flatR rcells [r])) (cs' := (pre ++ ((flatR rcells (ss.take n)) ++ ((flatR rcells [r]) ++ ((flatR rcells (ss.drop n)) ++ ((flatR rcells (ss.drop (n + 1))) ++ mid).drop (flatR rcells (ss.drop n)).length)))).toArray) rfl rfl (by rw [hs1]; rfl) (by rw [hs1]; rfl) (by rw [hs1]; rfl) (by rw [hs1, Sv.sub_o (by show _ < s.cap; omega)]) hvn hvs (by rw [hvl1]; exact min_l (b := ss.length + 1 - n) (by omega)) (by rw [hr0]) (fun w hw j u hj => own_cells (enc := rcells) (xs := [r]) (by decide) inferInstance hw hj) (flatR_one _) (by simp only [List.size_toArray, List.length_append]; omega) (by
            rw [← List.append_assoc pre, over_cat (A := pre ++ (flatR rcells (ss.take n))) (by rw [List.length_append]; omega), hr0, ← he0, List.drop_left, List.append_assoc]) ?_
          refine sq_nil ?_
          refine ex_then ?_
          refine cw_seq ?_
          refine cw_region ?_
          refine sq_r (ry_move rfl) ?_
          refine sq_r (ry_assign rfl) ?_
          refine sq_nil ?_
          refine ex_then ?_
          refine cw_ret ?_
          refine ex_pass_ret ?_
          refine ex_ret (.inl rfl) (res_1 rfl (rv_tmp rfl)) (fun w1 hw => ?_)
          refine ⟨s1, rfl, trivial, ?_⟩
          rw [show pre ++ ((flatR rcells (ss.take n)) ++ ((flatR rcells [r]) ++ ((flatR rcells (ss.drop n)) ++ ((flatR rcells (ss.drop (n + 1))) ++ mid).drop (flatR rcells (ss.drop n)).length))) = pre ++ (flatR rcells (ss.take n ++ r :: ss.drop n) ++ ((flatR rcells (ss.drop (n + 1))) ++ mid).drop (flatR rcells (ss.drop n)).length) from by rw [hfin]; simp only [List.append_assoc]] at hw
          have hw2 := own_shut (enc := rcells) (i := 0) (xs := ss.take n ++ r :: ss.drop n) (pre := pre) (mid := ((flatR rcells (ss.drop (n + 1))) ++ mid).drop (flatR rcells (ss.drop n)).length) hw rfl s1 (by rw [hs1]; exact ⟨(fun h => by cases h), by simp only; omega, by simp only; omega, fun _ => rfl⟩) (by rw [hs1]) (by rw [hs1]) (by rw [hs1]) (by rw [hs1]; exact hpl.symm) (by rw [hs1, hlf]) (by rw [hs1, hlf]; have := congrArg List.length hBe; simp only [List.length_append, List.length_drop] at this ⊢; omega)
          rw [List.set_cons_zero] at hw2
          exact Keep.mem hw2
        · exfalso; simp at h3
instance sinsR_i {w0 : World} {L R1 L2 : List Ent} {i j : Nat} {s : Sv} {ss : List Rt} {v : Sv} {r : Rt} {n : Nat} [h : Owns L s rcells 19 ss i] [d1 : DelI L i R1] [q : Owns R1 v rcells 19 [r] j] [d2 : DelI R1 j L2] : FnC Try.prog 136 w0 L [s.val, .int .i64 (n : Nat), v.val] (Sv) (fun zz => zz.val) (fun zz => own rcells 19 zz (ss.take n ++ r :: ss.drop n) :: L2) (fun zz => True) (n ≤ ss.length ∧ ss.length ≤ 1000000) := ⟨fun hp w hw => sinsR_c w0 w L2 s ss v r n (mem_two h.h d1.h q.h d2.h hw) hp⟩

end Go.Proofs.Ytajhlgdapiihgaa

/- Changes of a table, as cells; a table is changed: walked. -/
set_option linter.unusedSimpArgs false
set_option linter.unusedVariables false
namespace Go.Proofs.Ytajhlgdapiihgaa
open Go.Eng Go.Kb

instance : Enc chcells 20 := ⟨chcells_size, fun x => by
  have h : (rcells x.r).all (·.oneCell') = true := Enc.one x.r
  rw [chcells, Array.all_append, h]; simp [Value.oneCell']⟩
instance : Deep Ch := Deep.flat chcells 20
instance : FlatT Ch chcells 20 := ⟨rfl, fun _ => rfl⟩
instance : Plain Ch := ⟨fun _ => rfl⟩
instance (x : Ch) : SizeIs (chcells x) 20 := ⟨chcells_size x, Enc.one x⟩
instance (x : Ch) : PartAt (chcells x) 0 19 (rcells x.r) := ⟨rcells_size _, fun j hj => by rw [Nat.zero_add]; exact chcells_r x j hj⟩
instance (x : Ch) : PartAt (chcells x) 0 18 (pcells x.r.p) := ⟨pcells_size _, fun j hj => by rw [Nat.zero_add]; exact (chcells_r x j (by omega)).trans (rcells_p x.r j hj)⟩
instance (x : Ch) : CellAt (chcells x) 19 (.bool x.gone) := ⟨chcells_g x⟩
instance (x : Ch) : CellAt (chcells x) 18 (.int .u16 x.r.hop.toNat) := ⟨(chcells_r x 18 (by decide)).trans (rcells_hop x.r)⟩
instance (x : Ch) : CellAt (chcells x) 0 (.int .i64 x.r.p.bits) := ⟨(chcells_r x 0 (by decide)).trans ((rcells_p x.r 0 (by decide)).trans (pcells_0 x.r.p))⟩
instance (x : Ch) : CellAt (chcells x) 1 (.int .i64 x.r.p.len) := ⟨(chcells_r x 1 (by decide)).trans ((rcells_p x.r 1 (by decide)).trans (pcells_1 x.r.p))⟩
instance (x : Ch) : PartAt (chcells x) 2 16 (kcells x.r.p.key) := ⟨kcells_size _, fun j hj => (chcells_r x (2 + j) (by omega)).trans ((rcells_p x.r (2 + j) (by omega)).trans (pcells_k x.r.p j))⟩
instance : BuildT Try.prog 72 [] (.agg (chcells zch)) := ⟨fun w => by unfold chcells rcells pcells zch zroute; rw [kcells_zero]; kernel_rfl⟩
instance (r : Rt) : BuildT Try.prog 72 [(0, .agg (rcells r))] (.agg (chcells ⟨r, false⟩)) := ⟨fun w => by kernel_rfl⟩
instance : ZeroT Try.prog 72 (.agg (chcells zch)) := ⟨by unfold chcells rcells pcells zch zroute; rw [kcells_zero]; kernel_rfl⟩
theorem over_whole {cs vs : Array Value} (h : cs.size = vs.size) : over cs 0 vs = vs := by
  unfold over; apply Array.ext'; simp [← h]
set_option maxRecDepth 20000 in
theorem tchange_c (w0 w : World) (L : List Ent) (t : Sv) (ts : List Rt) (g : Ch) (hw : Mem w0 (own rcells 19 t ts :: L) w) (hpre : ts.length ≤ 1000) : Calls Try.prog 96 #[t.val, .agg (chcells g)] w fun e w' => ∃ zz : Sv, e = .returned (.tuple #[zz.val, .int .i64 (chgE ts g)]) ∧ (True) ∧ Mem w0 (own rcells 19 zz (chgL ts g) :: L) w' := by
  have hpn := placeN_le ts g.r.p
  refine calls_in (args := [_, _]) Try.func96 rfl Try.ntmps96 rfl hw ?_
  change Cw _ _ _ _ _ [(0, t.val), (1, .agg (chcells g))] (own rcells 19 t ts :: L)
  refine cw_seq ?_
  refine cw_region ?_
  refine sq_boxA rfl fun b3 => ?_
  refine sq_r (ry_assign rfl) ?_
  refine sq_r (ry_assign rfl) ?_
  refine sq_nil ?_
  refine ex_then ?_
  refine cw_seq ?_
  refine cw_seq ?_
  refine cw_region ?_
  refine sq_r (ry_field (o' := 0) rfl rfl) ?_
  refine sq_r (ry_field (o' := 0) rfl rfl) ?_
  refine sq_r (ry_part rfl) ?_
  refine sq_y (yl_callC rfl trivial) ?_
  refine sq_r (ry_not rfl) ?_
  refine sq_nil ?_
  refine ex_then ?_
  refine cw_cond rfl (fun h0 => ?_) (fun h0 => ?_)
  · try simp only [Bool.and_eq_true, Bool.or_eq_true, Bool.and_eq_false_iff, Bool.or_eq_false_iff, Bool.not_eq_true', Bool.not_eq_false', decide_eq_true_eq, decide_eq_false_iff_not, Bool.not_eq_true, Bool.not_eq_false] at h0
    have hm : pmay g.r.p = false := h0
    have he : chgE ts g = 1 := by rw [chgE, if_neg (by rw [hm]; simp)]
    refine cw_seq ?_
    refine cw_region ?_
    refine sq_r (ry_move rfl) ?_
    refine sq_r (ry_assign rfl) ?_
    refine sq_r (ry_assign rfl) ?_
    refine sq_nil ?_
    refine ex_then ?_
    refine cw_ret ?_
    refine ex_pass_ret ?_
    refine ex_ret (.inl rfl) (res_2 rfl (rv_tmp rfl) (rv_tmp rfl)) (fun w1 hw => ?_)
    exact ⟨t, by rw [he], trivial, by rw [chgL, if_neg (by rw [he]; decide)]; exact Keep.mem hw⟩
  · try simp only [Bool.and_eq_true, Bool.or_eq_true, Bool.and_eq_false_iff, Bool.or_eq_false_iff, Bool.not_eq_true', Bool.not_eq_false', decide_eq_true_eq, decide_eq_false_iff_not, Bool.not_eq_true, Bool.not_eq_false] at h0
    have hm : pmay g.r.p = true := h0
    refine cw_skip ?_
    refine ex_then ?_
    refine cw_seq ?_
    refine cw_region ?_
    refine sq_r (ry_move rfl) ?_
    refine sq_r (ry_field (o' := 0) rfl rfl) ?_
    refine sq_r (ry_field (o' := 0) rfl rfl) ?_
    refine sq_r (ry_part rfl) ?_
    refine sq_y (yl_callC rfl (by omega)) ?_
    refine sq_r (ry_move rfl) ?_
    refine sq_r (ry_extract (v := .int .i64 ((placeN ts g.r.p : Nat) : Int)) rfl rfl) ?_
    refine sq_r (ry_extract (v := .bool (placeB ts g.r.p)) rfl rfl) ?_
    refine sq_r (ry_assign rfl) ?_
    refine sq_r (ry_assign rfl) ?_
    refine sq_nil ?_
    refine ex_then ?_
    refine cw_seq ?_
    refine cw_block ?_
    refine cw_seq ?_
    refine cw_region ?_
    refine sq_r (ry_field (o' := 19) rfl rfl) ?_
    refine sq_r (ry_cellc rfl) ?_
    refine sq_r (ry_move rfl) ?_
    refine sq_gt rfl rfl rfl (fun hg => (Ry.yl (ry_move rfl))) ?_
    refine sq_gt rfl rfl rfl (fun hg => (Ry.yl (ry_not (ev_c hg rfl)))) ?_
    refine sq_r (ry_and rfl rfl rfl) ?_
    refine sq_r (ry_assign rfl) ?_
    refine sq_nil ?_
    refine ex_then ?_
    refine cw_cond rfl (fun h1 => ?_) (fun h1 => ?_)
    · try simp only [Bool.and_eq_true, Bool.or_eq_true, Bool.and_eq_false_iff, Bool.or_eq_false_iff, Bool.not_eq_true', Bool.not_eq_false', decide_eq_true_eq, decide_eq_false_iff_not, Bool.not_eq_true, Bool.not_eq_false] at h1
      have he : chgE ts g = 6 := by rw [chgE, if_pos hm, if_neg (by rw [h1.2]; simp), if_pos h1.1]
      refine cw_seq ?_
      refine cw_region ?_
      refine sq_r (ry_move rfl) ?_
      refine sq_r (ry_assign rfl) ?_
      refine sq_r (ry_assign rfl) ?_
      refine sq_nil ?_
      refine ex_then ?_
      refine cw_ret ?_
      refine ex_block_ret ?_
      refine ex_pass_ret ?_
      refine ex_ret (.inl rfl) (res_2 rfl (rv_tmp rfl) (rv_tmp rfl)) (fun w1 hw => ?_)
      exact ⟨t, by rw [he], trivial, by rw [chgL, if_neg (by rw [he]; decide)]; exact Keep.mem hw⟩
    · try simp only [Bool.and_eq_true, Bool.or_eq_true, Bool.and_eq_false_iff, Bool.or_eq_false_iff, Bool.not_eq_true', Bool.not_eq_false', decide_eq_true_eq, decide_eq_false_iff_not, Bool.not_eq_true, Bool.not_eq_false] at h1
      refine cw_seq ?_
      refine cw_region ?_
      refine sq_r (ry_field (o' := 19) rfl rfl) ?_
      refine sq_r (ry_cellc rfl) ?_
      refine sq_r (ry_assign rfl) ?_
      refine sq_nil ?_
      refine ex_then ?_
      refine cw_cond rfl (fun h2 => ?_) (fun h2 => ?_)
      · try simp only [Bool.and_eq_true, Bool.or_eq_true, Bool.and_eq_false_iff, Bool.or_eq_false_iff, Bool.not_eq_true', Bool.not_eq_false', decide_eq_true_eq, decide_eq_false_iff_not, Bool.not_eq_true, Bool.not_eq_false] at h2
        have hb : placeB ts g.r.p = true := by rcases h1 with h | h; (rw [h2] at h; cases h); exact h
        have he : chgE ts g = 0 := by rw [chgE, if_pos hm, if_pos hb]
        have hl : chgL ts g = ts.take (placeN ts g.r.p) ++ ts.drop ((placeN ts g.r.p) + 1) := by rw [chgL, if_pos he, if_pos h2]
        obtain ⟨r0, _, hr0, _⟩ := place_in hb
        have hpl := (List.getElem?_eq_some_iff.1 hr0).1
        refine cw_seq ?_
        refine cw_region ?_
        refine sq_r (ry_move rfl) ?_
        refine sq_r (ry_move rfl) ?_
        refine sq_r (ry_move rfl) ?_
        refine sq_r (Ry.to (v' := .int .i64 (((placeN ts g.r.p) + 1 : Nat) : Int)) (ry_add rfl rfl (by omega)) rfl) ?_
        refine sq_callC rfl ⟨by omega, by omega⟩ fun x37 hp37 => ?_
        refine sq_r (ry_assign rfl) ?_
        refine sq_r (ry_assign rfl) ?_
        refine sq_nil ?_
        refine ex_then ?_
        refine cw_ret ?_
        refine ex_block_ret ?_
        refine ex_pass_ret ?_
        refine ex_ret (.inl rfl) (res_2 rfl (rv_tmp rfl) (rv_tmp rfl)) (fun w1 hw => ?_)
        exact ⟨x37, by rw [he], trivial, by rw [hl]; exact Keep.mem hw⟩
      · try simp only [Bool.and_eq_true, Bool.or_eq_true, Bool.and_eq_false_iff, Bool.or_eq_false_iff, Bool.not_eq_true', Bool.not_eq_false', decide_eq_true_eq, decide_eq_false_iff_not, Bool.not_eq_true, Bool.not_eq_false] at h2
        refine cw_seq ?_
        refine cw_region ?_
        refine sq_r (ry_move rfl) ?_
        refine sq_r (ry_assign rfl) ?_
        refine sq_nil ?_
        refine ex_then ?_
        refine cw_cond rfl (fun h3 => ?_) (fun h3 => ?_)
        · try simp only [Bool.and_eq_true, Bool.or_eq_true, Bool.and_eq_false_iff, Bool.or_eq_false_iff, Bool.not_eq_true', Bool.not_eq_false', decide_eq_true_eq, decide_eq_false_iff_not, Bool.not_eq_true, Bool.not_eq_false] at h3
          have hb : placeB ts g.r.p = true := h3
          have he : chgE ts g = 0 := by rw [chgE, if_pos hm, if_pos hb]
          have hl : chgL ts g = ts.set (placeN ts g.r.p) g.r := by rw [chgL, if_pos he, if_neg (by rw [h2]; simp), if_pos hb]
          obtain ⟨r0, _, hr0, _⟩ := place_in hb
          have hpl := (List.getElem?_eq_some_iff.1 hr0).1
          refine cw_seq ?_
          refine cw_region ?_
          refine sq_r (ry_move rfl) ?_
          refine sq_r (ry_move rfl) ?_
          refine sq_r (ry_field (o' := 0) rfl rfl) ?_
          refine sq_r (ry_part rfl) ?_
          refine sq_r (ry_idxH rfl rfl (placeN ts g.r.p) rfl hpl) ?_
          refine sq_storeS (n := 19) (k := (placeN ts g.r.p)) (j := 0) (a := r0) (a' := g.r) (xs := ts) (enc := rcells) (c := 19) (v := .agg (rcells g.r)) (by kernel_rfl) rfl rfl rfl hr0 (Enc.one g.r) (rcells_size g.r) (by decide) (over_whole (by rw [rcells_size]; exact (rcells_size g.r).symm)) ?_
          refine sq_nil ?_
          refine ex_then ?_
          refine cw_seq ?_
          refine cw_region ?_
          refine sq_r (ry_move rfl) ?_
          refine sq_r (ry_assign rfl) ?_
          refine sq_r (ry_assign rfl) ?_
          refine sq_nil ?_
          refine ex_then ?_
          refine cw_ret ?_
          refine ex_block_ret ?_
          refine ex_pass_ret ?_
          refine ex_ret (.inl rfl) (res_2 rfl (rv_tmp rfl) (rv_tmp rfl)) (fun w1 hw => ?_)
          exact ⟨t, by rw [he], trivial, by rw [hl]; exact Keep.mem hw⟩
        · try simp only [Bool.and_eq_true, Bool.or_eq_true, Bool.and_eq_false_iff, Bool.or_eq_false_iff, Bool.not_eq_true', Bool.not_eq_false', decide_eq_true_eq, decide_eq_false_iff_not, Bool.not_eq_true, Bool.not_eq_false] at h3
          refine cw_seq ?_
          refine cw_region ?_
          refine sq_r (ry_move rfl) ?_
          refine sq_r (ry_lenH rfl) ?_
          refine sq_r (ry_int rfl rfl rfl) ?_
          refine sq_r (ry_assign rfl) ?_
          refine sq_nil ?_
          refine ex_then ?_
          refine cw_cond rfl (fun h4 => ?_) (fun h4 => ?_)
          · try simp only [Bool.and_eq_true, Bool.or_eq_true, Bool.and_eq_false_iff, Bool.or_eq_false_iff, Bool.not_eq_true', Bool.not_eq_false', decide_eq_true_eq, decide_eq_false_iff_not, Bool.not_eq_true, Bool.not_eq_false] at h4
            have he : chgE ts g = 5 := by rw [chgE, if_pos hm, if_neg (by rw [h3]; simp), if_neg (by rw [h2]; simp), if_pos (by omega)]
            refine cw_seq ?_
            refine cw_region ?_
            refine sq_r (ry_move rfl) ?_
            refine sq_r (ry_assign rfl) ?_
            refine sq_r (ry_assign rfl) ?_
            refine sq_nil ?_
            refine ex_then ?_
            refine cw_ret ?_
            refine ex_block_ret ?_
            refine ex_pass_ret ?_
            refine ex_ret (.inl rfl) (res_2 rfl (rv_tmp rfl) (rv_tmp rfl)) (fun w1 hw => ?_)
            exact ⟨t, by rw [he], trivial, by rw [chgL, if_neg (by rw [he]; decide)]; exact Keep.mem hw⟩
          · try simp only [Bool.and_eq_true, Bool.or_eq_true, Bool.and_eq_false_iff, Bool.or_eq_false_iff, Bool.not_eq_true', Bool.not_eq_false', decide_eq_true_eq, decide_eq_false_iff_not, Bool.not_eq_true, Bool.not_eq_false] at h4
            have he : chgE ts g = 0 := by rw [chgE, if_pos hm, if_neg (by rw [h3]; simp), if_neg (by rw [h2]; simp), if_neg (by omega)]
            have hl : chgL ts g = ts.take (placeN ts g.r.p) ++ g.r :: ts.drop (placeN ts g.r.p) := by rw [chgL, if_pos he, if_neg (by rw [h2]; simp), if_neg (by rw [h3]; simp)]
            refine cw_skip ?_
            refine ex_block ?_
            refine ex_then ?_
            refine cw_seq ?_
            refine cw_region ?_
            refine sq_r (ry_move rfl) ?_
            refine sq_r (ry_move rfl) ?_
            refine sq_r (ry_field (o' := 0) rfl rfl) ?_
            refine sq_r (ry_part rfl) ?_
            refine sq_buildSlice (enc := rcells) (vals := [_]) [g.r] rfl rfl rfl (by decide) (by decide) fun b55 => ?_
            refine sq_callC rfl ⟨by omega, by omega⟩ fun x56 hp56 => ?_
            refine sq_r (ry_assign rfl) ?_
            refine sq_r (ry_assign rfl) ?_
            refine sq_nil ?_
            refine ex_then ?_
            refine cw_ret ?_
            refine ex_ret (.inl rfl) (res_2 rfl (rv_tmp rfl) (rv_tmp rfl)) (fun w1 hw => ?_)
            exact ⟨x56, by rw [he], trivial, by rw [hl]; exact Keep.mem hw⟩
instance tchange_i {w0 : World} {L R : List Ent} {i : Nat} {t : Sv} {ts : List Rt} {g : Ch} [q : Owns L t rcells 19 ts i] [d : DelI L i R] : FnC Try.prog 96 w0 L [t.val, .agg (chcells g)] (Sv) (fun zz => .tuple #[zz.val, .int .i64 (chgE ts g)]) (fun zz => own rcells 19 zz (chgL ts g) :: R) (fun zz => True) (ts.length ≤ 1000) := ⟨fun hp w hw => tchange_c w0 w R t ts g (mem_one q.h d.h hw) hp⟩
set_option maxRecDepth 20000 in
theorem tapply_c (w : World) (t : Sv) (ts : List Rt) (l : Sv) (ls : List Ch) (ht : Lies rcells 19 (hp w) t ts) (hl : Lies chcells 20 (hp w) l ls) (hpre : ts.length ≤ 1000000) : Calls Try.prog 48 #[t.val, l.val] w fun e w' => ∃ zz : Sv, e = .returned (.tuple #[zz.val, .int .i64 (appE ts ls)]) ∧ (True) ∧ Mem w [own rcells 19 zz (appL ts ls)] w' := by
  have ght : Gv w t rcells 19 ts := ⟨ht⟩
  have ghl : Gv w l chcells 20 ls := ⟨hl⟩
  have hlb := hl.bd
  refine calls_of (args := [_, _]) Try.func48 rfl Try.ntmps48 rfl ?_
  change Cw _ _ _ _ _ [(0, t.val), (1, l.val)] []
  refine cw_seq ?_
  refine cw_region ?_
  refine sq_r (ry_assign rfl) ?_
  refine sq_r (ry_assign rfl) ?_
  refine sq_nil ?_
  refine ex_then ?_
  refine cw_seq ?_
  refine cw_seq ?_
  refine cw_region ?_
  refine sq_r (ry_move rfl) ?_
  refine sq_y (yl_callC rfl trivial) ?_
  refine sq_r (ry_not rfl) ?_
  refine sq_nil ?_
  refine ex_then ?_
  refine cw_cond rfl (fun h0 => ?_) (fun h0 => ?_)
  · try simp only [Bool.and_eq_true, Bool.or_eq_true, Bool.and_eq_false_iff, Bool.or_eq_false_iff, Bool.not_eq_true', Bool.not_eq_false', decide_eq_true_eq, decide_eq_false_iff_not, Bool.not_eq_true, Bool.not_eq_false] at h0
    have he : appE ts ls = 1 := if_neg (by rw [h0]; simp)
    have ha : appL ts ls = ts := by rw [appL, if_neg (by rw [he]; decide)]
    refine cw_seq ?_
    refine cw_region ?_
    refine sq_r (ry_move rfl) ?_
    refine sq_callC rfl (by omega) fun x14 hp14 => ?_
    refine sq_r (ry_assign rfl) ?_
    refine sq_r (ry_assign rfl) ?_
    refine sq_nil ?_
    refine ex_then ?_
    refine cw_ret ?_
    refine ex_pass_ret ?_
    refine ex_ret (.inl rfl) (res_2 rfl (rv_tmp rfl) (rv_tmp rfl)) (fun w1 hw => ?_)
    exact ⟨x14, by rw [he], trivial, by rw [ha]; exact Keep.mem hw⟩
  · try simp only [Bool.and_eq_true, Bool.or_eq_true, Bool.and_eq_false_iff, Bool.or_eq_false_iff, Bool.not_eq_true', Bool.not_eq_false', decide_eq_true_eq, decide_eq_false_iff_not, Bool.not_eq_true, Bool.not_eq_false] at h0
    have hr : tright ts = true := h0
    have hlen := tr_len hr
    refine cw_skip ?_
    refine ex_then ?_
    refine cw_seq ?_
    refine cw_region ?_
    refine sq_r (ry_move rfl) ?_
    refine sq_callC rfl (by omega) fun x16 hp16 => ?_
    refine sq_r (ry_assign rfl) ?_
    refine sq_nil ?_
    refine ex_then ?_
    refine cw_seq ?_
    refine cw_seq ?_
    refine cw_region ?_
    refine sq_r (ry_move rfl) ?_
    refine sq_r (ry_lenH rfl) ?_
    refine sq_r (ry_move rfl) ?_
    refine sq_nil ?_
    refine ex_then ?_
    refine cw_block ?_
    refine cw_loop (X := Nat × Sv × List Rt) (fun zz => [(19, .int .i64 (zz.1 : Nat)), (6, zz.2.1.val), (0, t.val), (17, l.val), (18, .int .i64 (ls.length : Nat))]) (fun zz => [own rcells 19 zz.2.1 zz.2.2]) (fun zz => zz.1 ≤ ls.length ∧ appF ts ls = appF zz.2.2 (ls.drop zz.1) ∧ zz.2.2.length ≤ 256) (fun zz => ls.length - zz.1) (0, x16, ts) ⟨Nat.zero_le _, rfl, hlen⟩ (Sub.cons rfl (Sub.cons rfl (Sub.cons rfl (Sub.cons rfl (Sub.cons rfl (Sub.nil _)))))) (fun w hw => Keep.mem hw) ?_
    rintro ⟨i, s1, q⟩ ⟨hi1, hi2, hi3⟩
    dsimp only
    simp only at hi1 hi2 hi3
    refine cw_seq ?_
    refine cw_region ?_
    refine sq_r (ry_int rfl rfl rfl) ?_
    refine sq_nil ?_
    refine ex_then ?_
    refine cw_seq ?_
    refine cw_cond rfl (fun h1 => ?_) (fun h1 => ?_)
    · try simp only [Bool.and_eq_true, Bool.or_eq_true, Bool.and_eq_false_iff, Bool.or_eq_false_iff, Bool.not_eq_true', Bool.not_eq_false', decide_eq_true_eq, decide_eq_false_iff_not, Bool.not_eq_true, Bool.not_eq_false] at h1
      refine cw_skip ?_
      refine ex_then ?_
      refine cw_seq ?_
      refine cw_block ?_
      refine cw_seq ?_
      refine cw_region ?_
      obtain ⟨g, hg⟩ := get_some (xs := ls) (i := i) (by omega)
      refine sq_r (ry_idxH rfl rfl i rfl (by omega)) ?_
      refine sq_r (ry_elemH rfl i hg rfl) ?_
      refine sq_allocA fun b8 => ?_
      refine sq_storeW rfl rfl ?_
      refine sq_nil ?_
      refine ex_then ?_
      refine cw_seq ?_
      refine cw_region ?_
      refine sq_r (ry_assign rfl) ?_
      refine sq_nil ?_
      refine ex_then ?_
      refine cw_seq ?_
      refine cw_region ?_
      refine sq_r (ry_move rfl) ?_
      refine sq_r (ry_whole rfl) ?_
      refine sq_callC rfl (by omega) fun x26 hp26 => ?_
      refine sq_r (ry_move rfl) ?_
      refine sq_r (ry_extract (v := x26.val) rfl rfl) ?_
      refine sq_r (ry_extract (v := .int .i64 (chgE q g)) rfl rfl) ?_
      refine sq_r (ry_assign rfl) ?_
      refine sq_r (ry_assign rfl) ?_
      refine sq_nil ?_
      refine ex_then ?_
      refine cw_seq ?_
      refine cw_region ?_
      refine sq_r (ry_move rfl) ?_
      refine sq_r (ry_int rfl rfl rfl) ?_
      refine sq_nil ?_
      refine ex_then ?_
      refine cw_cond rfl (fun h2 => ?_) (fun h2 => ?_)
      · try simp only [Bool.and_eq_true, Bool.or_eq_true, Bool.and_eq_false_iff, Bool.or_eq_false_iff, Bool.not_eq_true', Bool.not_eq_false', decide_eq_true_eq, decide_eq_false_iff_not, Bool.not_eq_true, Bool.not_eq_false] at h2
        have hce : ¬ chgE q g = 0 := h2
        have ef : appF ts ls = (q, chgE q g) := by rw [hi2, appF_step hg, if_neg hce]
        have he : appE ts ls = chgE q g := by rw [appE, if_pos hr, ef]
        have ha : appL ts ls = ts := by rw [appL, if_neg (by rw [he]; exact hce)]
        refine cw_seq ?_
        refine cw_region ?_
        refine sq_r (ry_move rfl) ?_
        refine sq_callC rfl (by omega) fun x32 hp32 => ?_
        refine sq_r (ry_move rfl) ?_
        refine sq_r (ry_assign rfl) ?_
        refine sq_r (ry_assign rfl) ?_
        refine sq_nil ?_
        refine ex_then ?_
        refine cw_ret ?_
        refine ex_block_ret ?_
        refine ex_pass_ret ?_
        refine ex_pass_ret ?_
        refine ex_block_ret ?_
        refine ex_pass_ret ?_
        refine ex_ret (.inl rfl) (res_2 rfl (rv_tmp rfl) (rv_tmp rfl)) (fun w1 hw => ?_)
        exact ⟨x32, by rw [he], trivial, by rw [ha]; exact Keep.mem hw⟩
      · try simp only [Bool.and_eq_true, Bool.or_eq_true, Bool.and_eq_false_iff, Bool.or_eq_false_iff, Bool.not_eq_true', Bool.not_eq_false', decide_eq_true_eq, decide_eq_false_iff_not, Bool.not_eq_true, Bool.not_eq_false] at h2
        refine cw_skip ?_
        refine ex_block ?_
        refine ex_then ?_
        refine cw_region ?_
        refine sq_r (ry_add rfl rfl (by omega)) ?_
        refine sq_r (ry_move rfl) ?_
        refine sq_nil ?_
        exact ex_again (x := (i, s1, q)) (i + 1, x26, chgL q g) ⟨by first | omega | (simp only []; omega), by rw [hi2, appF_step hg, if_pos h2], chgL_len hi3 g⟩ (by simp only; omega) (Sub.cons rfl (Sub.cons rfl (Sub.cons rfl (Sub.cons rfl (Sub.cons rfl (Sub.nil _)))))) (fun w hw => Keep.mem hw)
    · try simp only [Bool.and_eq_true, Bool.or_eq_true, Bool.and_eq_false_iff, Bool.or_eq_false_iff, Bool.not_eq_true', Bool.not_eq_false', decide_eq_true_eq, decide_eq_false_iff_not, Bool.not_eq_true, Bool.not_eq_false] at h1
      obtain rfl : i = ls.length := by omega
      have ef : appF ts ls = (q, 0) := by rw [hi2, List.drop_length]; rfl
      have he : appE ts ls = 0 := by rw [appE, if_pos hr, ef]
      have ha : appL ts ls = q := by rw [appL, if_pos he, ef]
      refine cw_exit ?_
      refine ex_pass_exit ?_
      refine ex_pass_exit ?_
      refine ex_block_hit ?_
      refine ex_then ?_
      refine cw_seq ?_
      refine cw_region ?_
      refine sq_r (ry_move rfl) ?_
      refine sq_r (ry_assign rfl) ?_
      refine sq_r (ry_assign rfl) ?_
      refine sq_nil ?_
      refine ex_then ?_
      refine cw_ret ?_
      refine ex_ret (.inl rfl) (res_2 rfl (rv_tmp rfl) (rv_tmp rfl)) (fun w1 hw => ?_)
      exact ⟨s1, by rw [he], trivial, by rw [ha]; exact Keep.mem hw⟩
instance tapply_i {w0 : World} {L : List Ent} {t : Sv} {ts : List Rt} {l : Sv} {ls : List Ch} [ht : HdE w0 L rcells 19 t ts] [hl : HdE w0 L chcells 20 l ls] : FnC Try.prog 48 w0 L [t.val, l.val] (Sv) (fun zz => .tuple #[zz.val, .int .i64 (appE ts ls)]) (fun zz => own rcells 19 zz (appL ts ls) :: L) (fun zz => True) (ts.length ≤ 1000000) := ⟨fun hp w hw => (tapply_c w t ts l ls (ht.h w hw) (hl.h w hw) hp).mono fun e w' ⟨x, h1, h2, h3⟩ => ⟨x, h1, h2, hw.call h3⟩⟩

end Go.Proofs.Ytajhlgdapiihgaa

