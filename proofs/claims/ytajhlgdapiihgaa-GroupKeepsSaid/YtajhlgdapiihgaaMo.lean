/- Groups, as cells; who is right: walked. -/
import Derived.Test.YtajhlgdapiihgaaMi
import Derived.Test.YtajhlgdapiihgaaMq
import Derived.Test.YtajhlgdapiihgaaMj

set_option linter.unusedSimpArgs false
set_option linter.unusedVariables false
namespace Go.Proofs.Ytajhlgdapiihgaa
open Go.Eng Go.Kb

instance : ZeroT Try.prog 59 (.agg (mrcells zmr)) := ⟨by kernel_rfl⟩
instance : ZeroT Try.prog 51 (.agg (gpcells zgp)) := ⟨by kernel_rfl⟩
instance (h : UInt16) (n : Int) : BuildT Try.prog 59 [(0, .int .u16 h.toNat), (1, .int .i64 n)] (.agg (mrcells ⟨h, n⟩)) := ⟨fun w => by kernel_rfl⟩
theorem gp_build (n : UInt16) (s : Sv) (xs : List Mr) (w : World) : (Instr.build 51 #[(0, .int .u16 n.toNat), (1, s.val)]).run Try.prog w = .ok (.agg (gpcells ⟨n, ⟨s, xs⟩⟩)) w := by
  unfold gpcells
  obtain ⟨e, b, o, l, c, p⟩ := s
  cases e <;> kernel_rfl
set_option maxRecDepth 20000 in
theorem gR1_c (w : World) (m : Mr)  : Calls Try.prog 86 #[.agg (mrcells m)] w fun e w' => e = .returned (.int .u16 (m.hop.toNat : Nat)) ∧ Mem w [] w' := by
  refine calls_of (args := [_]) Try.func86 rfl Try.ntmps86 rfl ?_
  change Cw _ _ _ _ _ [(0, .agg (mrcells m))] []
  refine cw_seq ?_
  refine cw_region ?_
  refine sq_boxA rfl fun b1 => ?_
  refine sq_r (ry_assign rfl) ?_
  refine sq_nil ?_
  refine ex_then ?_
  refine cw_seq ?_
  refine cw_region ?_
  refine sq_r (ry_field (o' := 0) rfl rfl) ?_
  refine sq_r (ry_cellc rfl) ?_
  refine sq_r (ry_assign rfl) ?_
  refine sq_nil ?_
  refine ex_then ?_
  refine cw_ret ?_
  refine ex_ret (.inl rfl) (res_1 rfl (rv_tmp rfl)) (fun w1 hw => ?_)
  exact ⟨rfl, Keep.mem hw⟩
instance gR1_i {w0 : World} {L : List Ent} {m : Mr}  : FnQ Try.prog 86 w0 L [.agg (mrcells m)] (.int .u16 (m.hop.toNat : Nat)) (True) := ⟨fun hp w hw => gR1_c w m ⟩
set_option maxRecDepth 20000 in
theorem gRrise_c (w : World) (l : Sv) (ls : List Mr) (hl : Lies mrcells 2 (hp w) l ls) (hpre : ls.length ≤ 1000000) : Calls Try.prog 85 #[l.val, .func (.func 86) #[] #[]] w fun e w' => e = .returned (.bool (rise (ls.map Mr.hop))) ∧ Mem w [] w' := by
  have ghl : Gv w l mrcells 2 ls := ⟨hl⟩
  have hnl : (ls.map Mr.hop).length = ls.length := by simp
  refine calls_of (args := [_, _]) Try.func85 rfl Try.ntmps85 rfl ?_
  change Cw _ _ _ _ _ [(0, l.val), (1, .func (.func 86) #[] #[])] []
  refine cw_seq ?_
  refine cw_region ?_
  refine sq_r (ry_assign rfl) ?_
  refine sq_nil ?_
  refine ex_then ?_
  refine cw_seq ?_
  refine cw_seq ?_
  refine cw_region ?_
  refine sq_r (ry_assign rfl) ?_
  refine sq_nil ?_
  refine ex_then ?_
  refine cw_block ?_
  refine cw_loop (X := Nat) (fun zz => [(5, .int .i64 (zz : Nat)), (0, l.val), (1, .func (.func 86) #[] #[])]) (fun zz => []) (fun zz => 1 ≤ zz ∧ (zz ≤ ls.length ∨ zz = 1) ∧ ∀ j, j < zz → riseAt (ls.map Mr.hop) j = true) (fun zz => ls.length - zz) 1 ⟨Nat.le_refl _, .inr rfl, fun j h => by obtain rfl : j = 0 := (by first | omega | (simp only []; omega)); rfl⟩ (Sub.cons rfl (Sub.cons rfl (Sub.cons rfl (Sub.nil _)))) (fun w hw => Keep.mem hw) ?_
  rintro i ⟨hi1, hi2, hi3⟩
  refine cw_seq ?_
  refine cw_seq ?_
  refine cw_region ?_
  refine sq_r (ry_move rfl) ?_
  refine sq_r (ry_move rfl) ?_
  refine sq_r (ry_lenH rfl) ?_
  refine sq_r (ry_int rfl rfl rfl) ?_
  refine sq_nil ?_
  refine ex_then ?_
  refine cw_cond rfl (fun h0 => ?_) (fun h0 => ?_)
  · try simp only [Bool.and_eq_true, Bool.or_eq_true, Bool.and_eq_false_iff, Bool.or_eq_false_iff, Bool.not_eq_true', Bool.not_eq_false', decide_eq_true_eq, decide_eq_false_iff_not, Bool.not_eq_true, Bool.not_eq_false] at h0
    obtain ⟨a, ha⟩ := get_some (xs := ls) (i := i - 1) (by omega)
    obtain ⟨b, hb⟩ := get_some (xs := ls) (i := i) (by omega)
    have hat : riseAt (ls.map Mr.hop) i = decide (a.hop < b.hop) := riseAt_pos (by omega) (by simp [ha]) (by simp [hb])
    refine cw_skip ?_
    refine ex_then ?_
    refine cw_seq ?_
    refine cw_block ?_
    refine cw_seq ?_
    refine cw_quiet (by kernel_rfl) (by kernel_rfl) ?_
    refine qt_r (ry_move rfl) ?_
    refine qt_r (ry_move rfl) ?_
    refine qt_r (ry_move rfl) ?_
    refine qt_r (ry_sub rfl rfl (by omega)) ?_
    refine qt_r (ry_idxH rfl rfl (i - 1) (by omega) (by omega)) ?_
    refine qt_r (ry_elemH rfl (i - 1) ha rfl) ?_
    refine qt_y (yl_fcall (v := .int .u16 (a.hop.toNat : Int)) rfl rfl (fun w1 hw1 => gR1_c w1 a)) ?_
    refine qt_r (ry_move rfl) ?_
    refine qt_r (ry_move rfl) ?_
    refine qt_r (ry_move rfl) ?_
    refine qt_r (ry_idxH rfl rfl i rfl (by omega)) ?_
    refine qt_r (ry_elemH rfl i hb rfl) ?_
    refine qt_y (yl_fcall (v := .int .u16 (b.hop.toNat : Int)) rfl rfl (fun w1 hw1 => gR1_c w1 b)) ?_
    refine qt_r (ry_int rfl rfl rfl) ?_
    refine qt_nil ?_
    refine ex_then ?_
    refine cw_cond rfl (fun h1 => ?_) (fun h1 => ?_)
    · try simp only [Bool.and_eq_true, Bool.or_eq_true, Bool.and_eq_false_iff, Bool.or_eq_false_iff, Bool.not_eq_true', Bool.not_eq_false', decide_eq_true_eq, decide_eq_false_iff_not, Bool.not_eq_true, Bool.not_eq_false] at h1
      have hz : rise (ls.map Mr.hop) = false := rise_no (i := i) (by omega) (by rw [hat, decide_eq_false_iff_not, u16_lt]; omega)
      refine cw_seq ?_
      refine cw_region ?_
      refine sq_r (ry_assign rfl) ?_
      refine sq_nil ?_
      refine ex_then ?_
      refine cw_ret ?_
      refine ex_block_ret ?_
      refine ex_pass_ret ?_
      refine ex_pass_ret ?_
      refine ex_block_ret ?_
      refine ex_pass_ret ?_
      refine ex_ret (.inl rfl) (res_1 rfl (rv_tmp rfl)) (fun w1 hw => ?_)
      exact ⟨congrArg (fun b => Ending.returned (Value.bool b)) (hz.symm), Keep.mem hw⟩
    · try simp only [Bool.and_eq_true, Bool.or_eq_true, Bool.and_eq_false_iff, Bool.or_eq_false_iff, Bool.not_eq_true', Bool.not_eq_false', decide_eq_true_eq, decide_eq_false_iff_not, Bool.not_eq_true, Bool.not_eq_false] at h1
      have hst : riseAt (ls.map Mr.hop) i = true := by rw [hat, decide_eq_true_eq, u16_lt]; omega
      refine cw_skip ?_
      refine ex_block ?_
      refine ex_then ?_
      refine cw_region ?_
      refine sq_r (ry_move rfl) ?_
      refine sq_r (ry_add rfl rfl (by omega)) ?_
      refine sq_r (ry_assign rfl) ?_
      refine sq_nil ?_
      exact ex_again (x := (i)) (i + 1) ⟨by first | omega | (simp only []; omega), by first | omega | (simp only []; omega), fun j hj => if e : j = i then (by subst e; exact hst) else hi3 j (by first | omega | (simp only []; omega))⟩ (by first | omega | (simp only []; omega)) (Sub.cons rfl (Sub.cons rfl (Sub.cons rfl (Sub.nil _)))) (fun w hw => Keep.mem hw)
  · try simp only [Bool.and_eq_true, Bool.or_eq_true, Bool.and_eq_false_iff, Bool.or_eq_false_iff, Bool.not_eq_true', Bool.not_eq_false', decide_eq_true_eq, decide_eq_false_iff_not, Bool.not_eq_true, Bool.not_eq_false] at h0
    have hz : rise (ls.map Mr.hop) = true := rise_all fun j hj => hi3 j (by omega)
    refine cw_exit ?_
    refine ex_pass_exit ?_
    refine ex_pass_exit ?_
    refine ex_block_hit ?_
    refine ex_then ?_
    refine cw_seq ?_
    refine cw_region ?_
    refine sq_r (ry_assign rfl) ?_
    refine sq_nil ?_
    refine ex_then ?_
    refine cw_ret ?_
    refine ex_ret (.inl rfl) (res_1 rfl (rv_tmp rfl)) (fun w1 hw => ?_)
    exact ⟨congrArg (fun b => Ending.returned (Value.bool b)) (hz.symm), Keep.mem hw⟩
instance gRrise_i {w0 : World} {L : List Ent} {l : Sv} {ls : List Mr} [hl : HdE w0 L mrcells 2 l ls] : FnQ Try.prog 85 w0 L [l.val, .func (.func 86) #[] #[]] (.bool (rise (ls.map Mr.hop))) (ls.length ≤ 1000000) := ⟨fun hp w hw => gRrise_c w l ls (hl.h w hw) hp⟩
set_option maxRecDepth 20000 in
theorem gA1_c (w : World) (m : Gp) (hm : Deep.good (hp w) m) : Calls Try.prog 89 #[.agg (gpcells m)] w fun e w' => e = .returned (.int .u16 (m.num.toNat : Nat)) ∧ Mem w [] w' := by
  have ghm : GvD w m := ⟨hm⟩
  refine calls_of (args := [_]) Try.func89 rfl Try.ntmps89 rfl ?_
  change Cw _ _ _ _ _ [(0, .agg (gpcells m))] []
  refine cw_seq ?_
  refine cw_region ?_
  refine sq_boxA rfl fun b1 => ?_
  refine sq_r (ry_assign rfl) ?_
  refine sq_nil ?_
  refine ex_then ?_
  refine cw_seq ?_
  refine cw_region ?_
  refine sq_r (ry_field (o' := 0) rfl rfl) ?_
  refine sq_r (ry_cellc rfl) ?_
  refine sq_r (ry_assign rfl) ?_
  refine sq_nil ?_
  refine ex_then ?_
  refine cw_ret ?_
  refine ex_ret (.inl rfl) (res_1 rfl (rv_tmp rfl)) (fun w1 hw => ?_)
  exact ⟨rfl, Keep.mem hw⟩
instance gA1_i {w0 : World} {L : List Ent} {m : Gp} [hm : HdD w0 L m] : FnQ Try.prog 89 w0 L [.agg (gpcells m)] (.int .u16 (m.num.toNat : Nat)) (True) := ⟨fun hp w hw => gA1_c w m (hm.h w hw)⟩
set_option maxRecDepth 20000 in
theorem gArise_c (w : World) (l : Sl Gp) (hl : Deep.good (hp w) l) (hpre : l.xs.length ≤ 1000000) : Calls Try.prog 88 #[l.sv.val, .func (.func 89) #[] #[]] w fun e w' => e = .returned (.bool (rise (l.xs.map Gp.num))) ∧ Mem w [] w' := by
  have ghl : GvD w l := ⟨hl⟩
  have hnl : (l.xs.map Gp.num).length = l.xs.length := by simp
  refine calls_of (args := [_, _]) Try.func88 rfl Try.ntmps88 rfl ?_
  change Cw _ _ _ _ _ [(0, l.sv.val), (1, .func (.func 89) #[] #[])] []
  refine cw_seq ?_
  refine cw_region ?_
  refine sq_r (ry_assign rfl) ?_
  refine sq_nil ?_
  refine ex_then ?_
  refine cw_seq ?_
  refine cw_seq ?_
  refine cw_region ?_
  refine sq_r (ry_assign rfl) ?_
  refine sq_nil ?_
  refine ex_then ?_
  refine cw_block ?_
  refine cw_loop (X := Nat) (fun zz => [(5, .int .i64 (zz : Nat)), (0, l.sv.val), (1, .func (.func 89) #[] #[])]) (fun zz => []) (fun zz => 1 ≤ zz ∧ (zz ≤ l.xs.length ∨ zz = 1) ∧ ∀ j, j < zz → riseAt (l.xs.map Gp.num) j = true) (fun zz => l.xs.length - zz) 1 ⟨Nat.le_refl _, .inr rfl, fun j h => by obtain rfl : j = 0 := (by first | omega | (simp only []; omega)); rfl⟩ (Sub.cons rfl (Sub.cons rfl (Sub.cons rfl (Sub.nil _)))) (fun w hw => Keep.mem hw) ?_
  rintro i ⟨hi1, hi2, hi3⟩
  refine cw_seq ?_
  refine cw_seq ?_
  refine cw_region ?_
  refine sq_r (ry_move rfl) ?_
  refine sq_r (ry_move rfl) ?_
  refine sq_r (ry_lenH rfl) ?_
  refine sq_r (ry_int rfl rfl rfl) ?_
  refine sq_nil ?_
  refine ex_then ?_
  refine cw_cond rfl (fun h0 => ?_) (fun h0 => ?_)
  · try simp only [Bool.and_eq_true, Bool.or_eq_true, Bool.and_eq_false_iff, Bool.or_eq_false_iff, Bool.not_eq_true', Bool.not_eq_false', decide_eq_true_eq, decide_eq_false_iff_not, Bool.not_eq_true, Bool.not_eq_false] at h0
    obtain ⟨a, ha⟩ := get_some (xs := l.xs) (i := i - 1) (by omega)
    obtain ⟨b, hb⟩ := get_some (xs := l.xs) (i := i) (by omega)
    have hat : riseAt (l.xs.map Gp.num) i = decide (a.num < b.num) := riseAt_pos (by omega) (by simp [ha]) (by simp [hb])
    refine cw_skip ?_
    refine ex_then ?_
    refine cw_seq ?_
    refine cw_block ?_
    refine cw_seq ?_
    refine cw_quiet (by kernel_rfl) (by kernel_rfl) ?_
    refine qt_r (ry_move rfl) ?_
    refine qt_r (ry_move rfl) ?_
    refine qt_r (ry_move rfl) ?_
    refine qt_r (ry_sub rfl rfl (by omega)) ?_
    refine qt_r (ry_idxH rfl rfl (i - 1) (by omega) (by omega)) ?_
    refine qt_r (ry_elemH rfl (i - 1) ha rfl) ?_
    refine qt_y (yl_fcall (v := .int .u16 (a.num.toNat : Int)) rfl rfl (fun w1 hw1 => gA1_c w1 a (((inferInstance : HdD w _ l).h w1 hw1).2 a (List.mem_of_getElem? ha)))) ?_
    refine qt_r (ry_move rfl) ?_
    refine qt_r (ry_move rfl) ?_
    refine qt_r (ry_move rfl) ?_
    refine qt_r (ry_idxH rfl rfl i rfl (by omega)) ?_
    refine qt_r (ry_elemH rfl i hb rfl) ?_
    refine qt_y (yl_fcall (v := .int .u16 (b.num.toNat : Int)) rfl rfl (fun w1 hw1 => gA1_c w1 b (((inferInstance : HdD w _ l).h w1 hw1).2 b (List.mem_of_getElem? hb)))) ?_
    refine qt_r (ry_int rfl rfl rfl) ?_
    refine qt_nil ?_
    refine ex_then ?_
    refine cw_cond rfl (fun h1 => ?_) (fun h1 => ?_)
    · try simp only [Bool.and_eq_true, Bool.or_eq_true, Bool.and_eq_false_iff, Bool.or_eq_false_iff, Bool.not_eq_true', Bool.not_eq_false', decide_eq_true_eq, decide_eq_false_iff_not, Bool.not_eq_true, Bool.not_eq_false] at h1
      have hz : rise (l.xs.map Gp.num) = false := rise_no (i := i) (by omega) (by rw [hat, decide_eq_false_iff_not, u16_lt]; omega)
      refine cw_seq ?_
      refine cw_region ?_
      refine sq_r (ry_assign rfl) ?_
      refine sq_nil ?_
      refine ex_then ?_
      refine cw_ret ?_
      refine ex_block_ret ?_
      refine ex_pass_ret ?_
      refine ex_pass_ret ?_
      refine ex_block_ret ?_
      refine ex_pass_ret ?_
      refine ex_ret (.inl rfl) (res_1 rfl (rv_tmp rfl)) (fun w1 hw => ?_)
      exact ⟨congrArg (fun b => Ending.returned (Value.bool b)) (hz.symm), Keep.mem hw⟩
    · try simp only [Bool.and_eq_true, Bool.or_eq_true, Bool.and_eq_false_iff, Bool.or_eq_false_iff, Bool.not_eq_true', Bool.not_eq_false', decide_eq_true_eq, decide_eq_false_iff_not, Bool.not_eq_true, Bool.not_eq_false] at h1
      have hst : riseAt (l.xs.map Gp.num) i = true := by rw [hat, decide_eq_true_eq, u16_lt]; omega
      refine cw_skip ?_
      refine ex_block ?_
      refine ex_then ?_
      refine cw_region ?_
      refine sq_r (ry_move rfl) ?_
      refine sq_r (ry_add rfl rfl (by omega)) ?_
      refine sq_r (ry_assign rfl) ?_
      refine sq_nil ?_
      exact ex_again (x := (i)) (i + 1) ⟨by first | omega | (simp only []; omega), by first | omega | (simp only []; omega), fun j hj => if e : j = i then (by subst e; exact hst) else hi3 j (by first | omega | (simp only []; omega))⟩ (by first | omega | (simp only []; omega)) (Sub.cons rfl (Sub.cons rfl (Sub.cons rfl (Sub.nil _)))) (fun w hw => Keep.mem hw)
  · try simp only [Bool.and_eq_true, Bool.or_eq_true, Bool.and_eq_false_iff, Bool.or_eq_false_iff, Bool.not_eq_true', Bool.not_eq_false', decide_eq_true_eq, decide_eq_false_iff_not, Bool.not_eq_true, Bool.not_eq_false] at h0
    have hz : rise (l.xs.map Gp.num) = true := rise_all fun j hj => hi3 j (by omega)
    refine cw_exit ?_
    refine ex_pass_exit ?_
    refine ex_pass_exit ?_
    refine ex_block_hit ?_
    refine ex_then ?_
    refine cw_seq ?_
    refine cw_region ?_
    refine sq_r (ry_assign rfl) ?_
    refine sq_nil ?_
    refine ex_then ?_
    refine cw_ret ?_
    refine ex_ret (.inl rfl) (res_1 rfl (rv_tmp rfl)) (fun w1 hw => ?_)
    exact ⟨congrArg (fun b => Ending.returned (Value.bool b)) (hz.symm), Keep.mem hw⟩
instance gArise_i {w0 : World} {L : List Ent} {l : Sl Gp} [hl : HdD w0 L l] : FnQ Try.prog 88 w0 L [l.sv.val, .func (.func 89) #[] #[]] (.bool (rise (l.xs.map Gp.num))) (l.xs.length ≤ 1000000) := ⟨fun hp w hw => gArise_c w l (hl.h w hw) hp⟩
set_option maxRecDepth 20000 in
theorem gright_c (w : World) (g : Gp) (hg : Deep.good (hp w) g) : Calls Try.prog 40 #[.agg (gpcells g)] w fun e w' => e = .returned (.bool (gok g.ms.xs)) ∧ Mem w [] w' := by
  have ghg : GvD w g := ⟨hg⟩
  refine calls_of (args := [_]) Try.func40 rfl Try.ntmps40 rfl ?_
  change Cw _ _ _ _ _ [(0, .agg (gpcells g))] []
  refine cw_seq ?_
  refine cw_region ?_
  refine sq_boxA rfl fun b1 => ?_
  refine sq_r (ry_assign rfl) ?_
  refine sq_nil ?_
  refine ex_then ?_
  refine cw_seq ?_
  refine cw_seq ?_
  refine cw_region ?_
  refine sq_r (ry_field (o' := 1) rfl rfl) ?_
  refine sq_r (ry_cellc rfl) ?_
  refine sq_r (ry_lenH rfl) ?_
  refine sq_r (ry_int rfl rfl rfl) ?_
  refine sq_r (ry_move rfl) ?_
  refine sq_gf rfl rfl rfl (fun hg => (Ry.yl (ry_field (o' := 1) rfl rfl))) ?_
  refine sq_gf rfl rfl rfl (fun hg => (Ry.yl (ry_cellc (ev_c hg rfl)))) ?_
  refine sq_gf rfl rfl rfl (fun hg => (Ry.yl (ry_lenH (ev_c hg rfl)))) ?_
  refine sq_gf rfl rfl rfl (fun hg => (Ry.yl (ry_int (ev_c hg rfl) rfl rfl))) ?_
  refine sq_r (ry_or rfl rfl rfl) ?_
  refine sq_nil ?_
  refine ex_then ?_
  refine cw_cond rfl (fun h0 => ?_) (fun h0 => ?_)
  · try simp only [Bool.and_eq_true, Bool.or_eq_true, Bool.and_eq_false_iff, Bool.or_eq_false_iff, Bool.not_eq_true', Bool.not_eq_false', decide_eq_true_eq, decide_eq_false_iff_not, Bool.not_eq_true, Bool.not_eq_false] at h0
    have hz : gok g.ms.xs = false := by
      cases hg : gok g.ms.xs with
      | false => rfl
      | true => obtain ⟨q1, q2, q3, q4⟩ := gok_iff.1 hg; omega
    refine cw_seq ?_
    refine cw_region ?_
    refine sq_r (ry_assign rfl) ?_
    refine sq_nil ?_
    refine ex_then ?_
    refine cw_ret ?_
    refine ex_pass_ret ?_
    refine ex_ret (.inl rfl) (res_1 rfl (rv_tmp rfl)) (fun w1 hw => ?_)
    exact ⟨congrArg (fun b => Ending.returned (Value.bool b)) (hz.symm), Keep.mem hw⟩
  · try simp only [Bool.and_eq_true, Bool.or_eq_true, Bool.and_eq_false_iff, Bool.or_eq_false_iff, Bool.not_eq_true', Bool.not_eq_false', decide_eq_true_eq, decide_eq_false_iff_not, Bool.not_eq_true, Bool.not_eq_false] at h0
    refine cw_skip ?_
    refine ex_then ?_
    refine cw_seq ?_
    refine cw_seq ?_
    refine cw_region ?_
    refine sq_r (ry_field (o' := 1) rfl rfl) ?_
    refine sq_r (ry_cellc rfl) ?_
    refine sq_r (ry_lenH rfl) ?_
    refine sq_r (ry_move rfl) ?_
    refine sq_nil ?_
    refine ex_then ?_
    refine cw_block ?_
    refine cw_loop (X := Nat) (fun zz => [(18, .int .i64 (zz : Nat)), (1, .pointer (some ⟨b1, 0, none⟩)), (16, g.ms.sv.val), (17, .int .i64 (g.ms.xs.length : Nat))]) (fun zz => [blk b1 (gpcells g) 51]) (fun zz => zz ≤ g.ms.xs.length ∧ ∀ x ∈ g.ms.xs.take zz, mok x = true) (fun zz => g.ms.xs.length - zz) 0 ⟨Nat.zero_le _, by simp⟩ (Sub.cons rfl (Sub.cons rfl (Sub.cons rfl (Sub.cons rfl (Sub.nil _))))) (fun w hw => Keep.mem hw) ?_
    rintro i ⟨hi1, hi2⟩
    refine cw_seq ?_
    refine cw_region ?_
    refine sq_r (ry_int rfl rfl rfl) ?_
    refine sq_nil ?_
    refine ex_then ?_
    refine cw_seq ?_
    refine cw_cond rfl (fun h1 => ?_) (fun h1 => ?_)
    · try simp only [Bool.and_eq_true, Bool.or_eq_true, Bool.and_eq_false_iff, Bool.or_eq_false_iff, Bool.not_eq_true', Bool.not_eq_false', decide_eq_true_eq, decide_eq_false_iff_not, Bool.not_eq_true, Bool.not_eq_false] at h1
      obtain ⟨m, hm⟩ := get_some (xs := g.ms.xs) (i := i) (by omega)
      refine cw_skip ?_
      refine ex_then ?_
      refine cw_seq ?_
      refine cw_block ?_
      refine cw_seq ?_
      refine cw_region ?_
      refine sq_r (ry_idxH rfl rfl i rfl (by omega)) ?_
      refine sq_r (ry_elemH rfl i hm rfl) ?_
      refine sq_allocA fun b4 => ?_
      refine sq_storeW rfl rfl ?_
      refine sq_nil ?_
      refine ex_then ?_
      refine cw_seq ?_
      refine cw_region ?_
      refine sq_r (ry_field (o' := 1) rfl rfl) ?_
      refine sq_r (ry_cellc rfl) ?_
      refine sq_r (ry_int rfl rfl rfl) ?_
      refine sq_r (ry_move rfl) ?_
      refine sq_gf rfl rfl rfl (fun hg => (Ry.yl (ry_field (o' := 1) rfl rfl))) ?_
      refine sq_gf rfl rfl rfl (fun hg => (Ry.yl (ry_cellc (ev_c hg rfl)))) ?_
      refine sq_gf rfl rfl rfl (fun hg => (Ry.yl (ry_int (ev_c hg rfl) rfl rfl))) ?_
      refine sq_r (ry_or rfl rfl rfl) ?_
      refine sq_nil ?_
      refine ex_then ?_
      refine cw_cond rfl (fun h2 => ?_) (fun h2 => ?_)
      · try simp only [Bool.and_eq_true, Bool.or_eq_true, Bool.and_eq_false_iff, Bool.or_eq_false_iff, Bool.not_eq_true', Bool.not_eq_false', decide_eq_true_eq, decide_eq_false_iff_not, Bool.not_eq_true, Bool.not_eq_false] at h2
        have hz : gok g.ms.xs = false := by
          cases hg : gok g.ms.xs with
          | false => rfl
          | true => obtain ⟨q1, q2, q3, q4⟩ := gok_iff.1 hg; have := q3 m (List.mem_of_getElem? hm); omega
        refine cw_seq ?_
        refine cw_region ?_
        refine sq_r (ry_assign rfl) ?_
        refine sq_nil ?_
        refine ex_then ?_
        refine cw_ret ?_
        refine ex_block_ret ?_
        refine ex_pass_ret ?_
        refine ex_pass_ret ?_
        refine ex_block_ret ?_
        refine ex_pass_ret ?_
        refine ex_ret (.inl rfl) (res_1 rfl (rv_tmp rfl)) (fun w1 hw => ?_)
        exact ⟨congrArg (fun b => Ending.returned (Value.bool b)) (hz.symm), Keep.mem hw⟩
      · try simp only [Bool.and_eq_true, Bool.or_eq_true, Bool.and_eq_false_iff, Bool.or_eq_false_iff, Bool.not_eq_true', Bool.not_eq_false', decide_eq_true_eq, decide_eq_false_iff_not, Bool.not_eq_true, Bool.not_eq_false] at h2
        have hmok : mok m = true := by rw [mok, decide_eq_true (by omega), decide_eq_true (by omega)]; rfl
        refine cw_skip ?_
        refine ex_block ?_
        refine ex_then ?_
        refine cw_region ?_
        refine sq_r (ry_add rfl rfl (by omega)) ?_
        refine sq_r (ry_move rfl) ?_
        refine sq_nil ?_
        exact ex_again (x := (i)) (i + 1) ⟨by first | omega | (simp only []; omega), take_succ_all hi2 hm hmok⟩ (by first | omega | (simp only []; omega)) (Sub.cons rfl (Sub.cons rfl (Sub.cons rfl (Sub.cons rfl (Sub.nil _))))) (fun w hw => Keep.mem hw)
    · try simp only [Bool.and_eq_true, Bool.or_eq_true, Bool.and_eq_false_iff, Bool.or_eq_false_iff, Bool.not_eq_true', Bool.not_eq_false', decide_eq_true_eq, decide_eq_false_iff_not, Bool.not_eq_true, Bool.not_eq_false] at h1
      obtain rfl : i = g.ms.xs.length := by omega
      have hz : rise (g.ms.xs.map Mr.hop) = gok g.ms.xs := by
        rw [gok, decide_eq_true (by omega), decide_eq_true (by omega), List.all_eq_true.2 fun x hx => hi2 x (by rw [List.take_length]; exact hx)]; simp
      refine cw_exit ?_
      refine ex_pass_exit ?_
      refine ex_pass_exit ?_
      refine ex_block_hit ?_
      refine ex_then ?_
      refine cw_seq ?_
      refine cw_region ?_
      refine sq_r (ry_field (o' := 1) rfl rfl) ?_
      refine sq_r (ry_cellc rfl) ?_
      refine sq_y (yl_callC rfl (by omega)) ?_
      refine sq_r (ry_assign rfl) ?_
      refine sq_nil ?_
      refine ex_then ?_
      refine cw_ret ?_
      refine ex_ret (.inl rfl) (res_1 rfl (rv_tmp rfl)) (fun w1 hw => ?_)
      exact ⟨congrArg (fun b => Ending.returned (Value.bool b)) (hz), Keep.mem hw⟩
instance gright_i {w0 : World} {L : List Ent} {g : Gp} [hg : HdD w0 L g] : FnQ Try.prog 40 w0 L [.agg (gpcells g)] (.bool (gok g.ms.xs)) (True) := ⟨fun hp w hw => gright_c w g (hg.h w hw)⟩
set_option maxRecDepth 20000 in
theorem gallW_c (w : World) (l : Sl Gp) (hl : Deep.good (hp w) l) : Calls Try.prog 43 #[l.sv.val] w fun e w' => e = .returned (.bool (gall (gvs l.xs))) ∧ Mem w [] w' := by
  have ghl : GvD w l := ⟨hl⟩
  have hgl := gvs_length l.xs
  refine calls_of (args := [_]) Try.func43 rfl Try.ntmps43 rfl ?_
  change Cw _ _ _ _ _ [(0, l.sv.val)] []
  refine cw_seq ?_
  refine cw_region ?_
  refine sq_r (ry_assign rfl) ?_
  refine sq_nil ?_
  refine ex_then ?_
  refine cw_seq ?_
  refine cw_seq ?_
  refine cw_region ?_
  refine sq_r (ry_move rfl) ?_
  refine sq_r (ry_lenH rfl) ?_
  refine sq_r (ry_int rfl rfl rfl) ?_
  refine sq_nil ?_
  refine ex_then ?_
  refine cw_cond rfl (fun h0 => ?_) (fun h0 => ?_)
  · try simp only [Bool.and_eq_true, Bool.or_eq_true, Bool.and_eq_false_iff, Bool.or_eq_false_iff, Bool.not_eq_true', Bool.not_eq_false', decide_eq_true_eq, decide_eq_false_iff_not, Bool.not_eq_true, Bool.not_eq_false] at h0
    have hz : gall (gvs l.xs) = false := by rw [gall, decide_eq_false (by omega)]; rfl
    refine cw_seq ?_
    refine cw_region ?_
    refine sq_r (ry_assign rfl) ?_
    refine sq_nil ?_
    refine ex_then ?_
    refine cw_ret ?_
    refine ex_pass_ret ?_
    refine ex_ret (.inl rfl) (res_1 rfl (rv_tmp rfl)) (fun w1 hw => ?_)
    exact ⟨congrArg (fun b => Ending.returned (Value.bool b)) (hz.symm), Keep.mem hw⟩
  · try simp only [Bool.and_eq_true, Bool.or_eq_true, Bool.and_eq_false_iff, Bool.or_eq_false_iff, Bool.not_eq_true', Bool.not_eq_false', decide_eq_true_eq, decide_eq_false_iff_not, Bool.not_eq_true, Bool.not_eq_false] at h0
    refine cw_skip ?_
    refine ex_then ?_
    refine cw_seq ?_
    refine cw_seq ?_
    refine cw_region ?_
    refine sq_r (ry_move rfl) ?_
    refine sq_r (ry_lenH rfl) ?_
    refine sq_r (ry_move rfl) ?_
    refine sq_nil ?_
    refine ex_then ?_
    refine cw_block ?_
    refine cw_loop (X := Nat) (fun zz => [(10, .int .i64 (zz : Nat)), (0, l.sv.val), (8, l.sv.val), (9, .int .i64 (l.xs.length : Nat))]) (fun zz => []) (fun zz => zz ≤ l.xs.length ∧ ∀ x ∈ l.xs.take zz, gok x.ms.xs = true) (fun zz => l.xs.length - zz) 0 ⟨Nat.zero_le _, by simp⟩ (Sub.cons rfl (Sub.cons rfl (Sub.cons rfl (Sub.cons rfl (Sub.nil _))))) (fun w hw => Keep.mem hw) ?_
    rintro i ⟨hi1, hi2⟩
    refine cw_seq ?_
    refine cw_region ?_
    refine sq_r (ry_int rfl rfl rfl) ?_
    refine sq_nil ?_
    refine ex_then ?_
    refine cw_seq ?_
    refine cw_cond rfl (fun h1 => ?_) (fun h1 => ?_)
    · try simp only [Bool.and_eq_true, Bool.or_eq_true, Bool.and_eq_false_iff, Bool.or_eq_false_iff, Bool.not_eq_true', Bool.not_eq_false', decide_eq_true_eq, decide_eq_false_iff_not, Bool.not_eq_true, Bool.not_eq_false] at h1
      obtain ⟨m, hm⟩ := get_some (xs := l.xs) (i := i) (by omega)
      have mbm : Mb m _ := ⟨List.mem_of_getElem? hm⟩
      refine cw_skip ?_
      refine ex_then ?_
      refine cw_seq ?_
      refine cw_block ?_
      refine cw_seq ?_
      refine cw_region ?_
      refine sq_r (ry_idxH rfl rfl i rfl (by omega)) ?_
      refine sq_r (ry_elemH rfl i hm rfl) ?_
      refine sq_allocA fun b4 => ?_
      refine sq_storeW rfl rfl ?_
      refine sq_nil ?_
      refine ex_then ?_
      refine cw_seq ?_
      refine cw_region ?_
      refine sq_r (ry_whole rfl) ?_
      refine sq_y (yl_callC rfl trivial) ?_
      refine sq_r (ry_not rfl) ?_
      refine sq_nil ?_
      refine ex_then ?_
      refine cw_cond rfl (fun h2 => ?_) (fun h2 => ?_)
      · try simp only [Bool.and_eq_true, Bool.or_eq_true, Bool.and_eq_false_iff, Bool.or_eq_false_iff, Bool.not_eq_true', Bool.not_eq_false', decide_eq_true_eq, decide_eq_false_iff_not, Bool.not_eq_true, Bool.not_eq_false] at h2
        have hz : gall (gvs l.xs) = false := by
          cases hg : gall (gvs l.xs) with
          | false => rfl
          | true => have := (gall_iff.1 hg).2.1 (gval m) (List.mem_map_of_mem (List.mem_of_getElem? hm)); rw [show (gval m).2 = m.ms.xs from rfl, h2] at this; cases this
        refine cw_seq ?_
        refine cw_region ?_
        refine sq_r (ry_assign rfl) ?_
        refine sq_nil ?_
        refine ex_then ?_
        refine cw_ret ?_
        refine ex_block_ret ?_
        refine ex_pass_ret ?_
        refine ex_pass_ret ?_
        refine ex_block_ret ?_
        refine ex_pass_ret ?_
        refine ex_ret (.inl rfl) (res_1 rfl (rv_tmp rfl)) (fun w1 hw => ?_)
        exact ⟨congrArg (fun b => Ending.returned (Value.bool b)) (hz.symm), Keep.mem hw⟩
      · try simp only [Bool.and_eq_true, Bool.or_eq_true, Bool.and_eq_false_iff, Bool.or_eq_false_iff, Bool.not_eq_true', Bool.not_eq_false', decide_eq_true_eq, decide_eq_false_iff_not, Bool.not_eq_true, Bool.not_eq_false] at h2
        refine cw_skip ?_
        refine ex_block ?_
        refine ex_then ?_
        refine cw_region ?_
        refine sq_r (ry_add rfl rfl (by omega)) ?_
        refine sq_r (ry_move rfl) ?_
        refine sq_nil ?_
        exact ex_again (x := (i)) (i + 1) ⟨by first | omega | (simp only []; omega), take_succ_all hi2 hm (by simpa using h2)⟩ (by first | omega | (simp only []; omega)) (Sub.cons rfl (Sub.cons rfl (Sub.cons rfl (Sub.cons rfl (Sub.nil _))))) (fun w hw => Keep.mem hw)
    · try simp only [Bool.and_eq_true, Bool.or_eq_true, Bool.and_eq_false_iff, Bool.or_eq_false_iff, Bool.not_eq_true', Bool.not_eq_false', decide_eq_true_eq, decide_eq_false_iff_not, Bool.not_eq_true, Bool.not_eq_false] at h1
      obtain rfl : i = l.xs.length := by omega
      have hz : rise (l.xs.map Gp.num) = gall (gvs l.xs) := by
        rw [gall, decide_eq_true (by omega), List.all_eq_true.2 fun x hx => by obtain ⟨y, hy, rfl⟩ := List.mem_map.1 hx; exact hi2 y (by rw [List.take_length]; exact hy)]
        simp [gvs, gval, Function.comp_def]
      refine cw_exit ?_
      refine ex_pass_exit ?_
      refine ex_pass_exit ?_
      refine ex_block_hit ?_
      refine ex_then ?_
      refine cw_seq ?_
      refine cw_region ?_
      refine sq_r (ry_move rfl) ?_
      refine sq_y (yl_callC rfl (by omega)) ?_
      refine sq_r (ry_assign rfl) ?_
      refine sq_nil ?_
      refine ex_then ?_
      refine cw_ret ?_
      refine ex_ret (.inl rfl) (res_1 rfl (rv_tmp rfl)) (fun w1 hw => ?_)
      exact ⟨congrArg (fun b => Ending.returned (Value.bool b)) (hz), Keep.mem hw⟩
instance gallW_i {w0 : World} {L : List Ent} {l : Sl Gp} [hl : HdD w0 L l] : FnQ Try.prog 43 w0 L [l.sv.val] (.bool (gall (gvs l.xs))) (True) := ⟨fun hp w hw => gallW_c w l (hl.h w hw)⟩
set_option maxRecDepth 20000 in
theorem gweight_c (w : World) (g : Gp) (hg : Deep.good (hp w) g) : Calls Try.prog 41 #[.agg (gpcells g)] w fun e w' => e = .returned (.int .i64 (gwt g.ms.xs)) ∧ Mem w [] w' := by
  have ghg : GvD w g := ⟨hg⟩
  refine calls_of (args := [_]) Try.func41 rfl Try.ntmps41 rfl ?_
  change Cw _ _ _ _ _ [(0, .agg (gpcells g))] []
  refine cw_seq ?_
  refine cw_region ?_
  refine sq_boxA rfl fun b1 => ?_
  refine sq_r (ry_assign rfl) ?_
  refine sq_nil ?_
  refine ex_then ?_
  refine cw_seq ?_
  refine cw_seq ?_
  refine cw_region ?_
  refine sq_r (ry_whole rfl) ?_
  refine sq_y (yl_callC rfl trivial) ?_
  refine sq_r (ry_not rfl) ?_
  refine sq_nil ?_
  refine ex_then ?_
  refine cw_cond rfl (fun h0 => ?_) (fun h0 => ?_)
  · try simp only [Bool.and_eq_true, Bool.or_eq_true, Bool.and_eq_false_iff, Bool.or_eq_false_iff, Bool.not_eq_true', Bool.not_eq_false', decide_eq_true_eq, decide_eq_false_iff_not, Bool.not_eq_true, Bool.not_eq_false] at h0
    have hz : gwt g.ms.xs = 0 := if_neg (by rw [h0]; simp)
    refine cw_seq ?_
    refine cw_region ?_
    refine sq_r (ry_assign rfl) ?_
    refine sq_nil ?_
    refine ex_then ?_
    refine cw_ret ?_
    refine ex_pass_ret ?_
    refine ex_ret (.inl rfl) (res_1 rfl (rv_tmp rfl)) (fun w1 hw => ?_)
    exact ⟨congrArg (fun b => Ending.returned (Value.int .i64 b)) (hz.symm), Keep.mem hw⟩
  · try simp only [Bool.and_eq_true, Bool.or_eq_true, Bool.and_eq_false_iff, Bool.or_eq_false_iff, Bool.not_eq_true', Bool.not_eq_false', decide_eq_true_eq, decide_eq_false_iff_not, Bool.not_eq_true, Bool.not_eq_false] at h0
    have hg : gok g.ms.xs = true := by simpa using h0
    obtain ⟨k1, k2, k3, _⟩ := gok_iff.1 hg
    refine cw_skip ?_
    refine ex_then ?_
    refine cw_seq ?_
    refine cw_region ?_
    refine sq_r (ry_assign rfl) ?_
    refine sq_nil ?_
    refine ex_then ?_
    refine cw_seq ?_
    refine cw_seq ?_
    refine cw_region ?_
    refine sq_r (ry_field (o' := 1) rfl rfl) ?_
    refine sq_r (ry_cellc rfl) ?_
    refine sq_r (ry_lenH rfl) ?_
    refine sq_r (ry_move rfl) ?_
    refine sq_nil ?_
    refine ex_then ?_
    refine cw_block ?_
    refine cw_loop (X := Nat) (fun zz => [(12, .int .i64 (zz : Nat)), (3, .int .i64 (wsum (g.ms.xs.take zz))), (10, g.ms.sv.val), (11, .int .i64 (g.ms.xs.length : Nat))]) (fun zz => [blk b1 (gpcells g) 51]) (fun zz => zz ≤ g.ms.xs.length) (fun zz => g.ms.xs.length - zz) 0 (Nat.zero_le _) (Sub.cons rfl (Sub.cons rfl (Sub.cons rfl (Sub.cons rfl (Sub.nil _))))) (fun w hw => Keep.mem hw) ?_
    rintro i hi1
    refine cw_seq ?_
    refine cw_region ?_
    refine sq_r (ry_int rfl rfl rfl) ?_
    refine sq_nil ?_
    refine ex_then ?_
    refine cw_seq ?_
    refine cw_cond rfl (fun h1 => ?_) (fun h1 => ?_)
    · try simp only [Bool.and_eq_true, Bool.or_eq_true, Bool.and_eq_false_iff, Bool.or_eq_false_iff, Bool.not_eq_true', Bool.not_eq_false', decide_eq_true_eq, decide_eq_false_iff_not, Bool.not_eq_true, Bool.not_eq_false] at h1
      obtain ⟨m, hm⟩ := get_some (xs := g.ms.xs) (i := i) (by omega)
      have hmb := k3 m (List.mem_of_getElem? hm)
      have hsb := wsum_bd (ms := g.ms.xs.take i) (fun x hx => k3 x (List.mem_of_mem_take hx))
      have hsl : (g.ms.xs.take i).length = i := by rw [List.length_take]; omega
      refine cw_skip ?_
      refine ex_then ?_
      refine cw_seq ?_
      refine cw_block ?_
      refine cw_seq ?_
      refine cw_region ?_
      refine sq_r (ry_idxH rfl rfl i rfl (by omega)) ?_
      refine sq_r (ry_elemH rfl i hm rfl) ?_
      refine sq_allocA fun b5 => ?_
      refine sq_storeW rfl rfl ?_
      refine sq_nil ?_
      refine ex_then ?_
      refine cw_region ?_
      refine sq_r (ry_move rfl) ?_
      refine sq_r (ry_field (o' := 1) rfl rfl) ?_
      refine sq_r (ry_cellc rfl) ?_
      refine sq_r (ry_add rfl rfl (by omega)) ?_
      refine sq_r (ry_assign rfl) ?_
      refine sq_nil ?_
      refine ex_block ?_
      refine ex_then ?_
      refine cw_region ?_
      refine sq_r (ry_add rfl rfl (by omega)) ?_
      refine sq_r (ry_move rfl) ?_
      refine sq_nil ?_
      exact ex_again (x := (i)) (i + 1) (by first | omega | (simp only []; omega)) (by first | omega | (simp only []; omega)) (Sub.cons rfl (Sub.cons (look_eq rfl (by rw [wsum_snoc hm])) (Sub.cons rfl (Sub.cons rfl (Sub.nil _))))) (fun w hw => Keep.mem hw)
    · try simp only [Bool.and_eq_true, Bool.or_eq_true, Bool.and_eq_false_iff, Bool.or_eq_false_iff, Bool.not_eq_true', Bool.not_eq_false', decide_eq_true_eq, decide_eq_false_iff_not, Bool.not_eq_true, Bool.not_eq_false] at h1
      obtain rfl : i = g.ms.xs.length := by omega
      have hz : gwt g.ms.xs = wsum (g.ms.xs.take g.ms.xs.length) := by rw [List.take_length]; exact if_pos hg
      refine cw_exit ?_
      refine ex_pass_exit ?_
      refine ex_pass_exit ?_
      refine ex_block_hit ?_
      refine ex_then ?_
      refine cw_seq ?_
      refine cw_region ?_
      refine sq_r (ry_move rfl) ?_
      refine sq_r (ry_assign rfl) ?_
      refine sq_nil ?_
      refine ex_then ?_
      refine cw_ret ?_
      refine ex_ret (.inl rfl) (res_1 rfl (rv_tmp rfl)) (fun w1 hw => ?_)
      exact ⟨congrArg (fun b => Ending.returned (Value.int .i64 b)) (hz.symm), Keep.mem hw⟩
instance gweight_i {w0 : World} {L : List Ent} {g : Gp} [hg : HdD w0 L g] : FnQ Try.prog 41 w0 L [.agg (gpcells g)] (.int .i64 (gwt g.ms.xs)) (True) := ⟨fun hp w hw => gweight_c w g (hg.h w hw)⟩

end Go.Proofs.Ytajhlgdapiihgaa

/- The place of a number: walked. -/
set_option linter.unusedSimpArgs false
set_option linter.unusedVariables false
namespace Go.Proofs.Ytajhlgdapiihgaa
open Go.Eng Go.Kb
set_option maxRecDepth 20000 in
theorem isnan16_c (w : World) (a : UInt16)  : Calls Try.prog 156 #[.int .u16 (a.toNat : Nat)] w fun e w' => e = .returned (.bool false) ∧ Mem w [] w' := by
  refine calls_of (args := [_]) Try.func156 rfl Try.ntmps156 rfl ?_
  change Cw _ _ _ _ _ [(0, .int .u16 (a.toNat : Nat))] []
  refine cw_seq ?_
  refine cw_region ?_
  refine sq_r (ry_assign rfl) ?_
  refine sq_nil ?_
  refine ex_then ?_
  refine cw_seq ?_
  refine cw_region ?_
  refine sq_r (ry_move rfl) ?_
  refine sq_r (ry_move rfl) ?_
  refine sq_r (ry_int rfl rfl rfl) ?_
  refine sq_r (ry_assign rfl) ?_
  refine sq_nil ?_
  refine ex_then ?_
  refine cw_ret ?_
  refine ex_ret (.inl rfl) (res_1 rfl (rv_tmp rfl)) (fun w1 hw => ?_)
  exact ⟨congrArg (fun b => Ending.returned (Value.bool b)) ((by simp)), Keep.mem hw⟩
instance isnan16_i {w0 : World} {L : List Ent} {a : UInt16}  : FnQ Try.prog 156 w0 L [.int .u16 (a.toNat : Nat)] (.bool false) (True) := ⟨fun hp w hw => isnan16_c w a ⟩
set_option maxRecDepth 20000 in
theorem cmp16_c (w : World) (a : UInt16) (b : UInt16)  : Calls Try.prog 130 #[.int .u16 (a.toNat : Nat), .int .u16 (b.toNat : Nat)] w fun e w' => e = .returned (.int .i64 (if a < b then (-1 : Int) else if b < a then 1 else 0)) ∧ Mem w [] w' := by
  have ltn : ∀ a b : UInt16, a < b ↔ (a.toNat : Int) < (b.toNat : Int) := fun a b => by rw [u16_lt]; omega
  refine calls_of (args := [_, _]) Try.func130 rfl Try.ntmps130 rfl ?_
  change Cw _ _ _ _ _ [(0, .int .u16 (a.toNat : Nat)), (1, .int .u16 (b.toNat : Nat))] []
  refine cw_seq ?_
  refine cw_region ?_
  refine sq_r (ry_assign rfl) ?_
  refine sq_nil ?_
  refine ex_then ?_
  refine cw_seq ?_
  refine cw_region ?_
  refine sq_r (ry_move rfl) ?_
  refine sq_y (yl_callC rfl trivial) ?_
  refine sq_r (ry_assign rfl) ?_
  refine sq_nil ?_
  refine ex_then ?_
  refine cw_seq ?_
  refine cw_region ?_
  refine sq_r (ry_move rfl) ?_
  refine sq_y (yl_callC rfl trivial) ?_
  refine sq_r (ry_assign rfl) ?_
  refine sq_nil ?_
  refine ex_then ?_
  refine cw_seq ?_
  refine cw_seq ?_
  refine cw_region ?_
  refine sq_r (ry_move rfl) ?_
  refine sq_nil ?_
  refine ex_then ?_
  refine cw_cond rfl (fun h0 => ?_) (fun h0 => ?_)
  · exfalso; simp at h0
  · try simp only [Bool.and_eq_true, Bool.or_eq_true, Bool.and_eq_false_iff, Bool.or_eq_false_iff, Bool.not_eq_true', Bool.not_eq_false', decide_eq_true_eq, decide_eq_false_iff_not, Bool.not_eq_true, Bool.not_eq_false] at h0
    refine cw_skip ?_
    refine ex_then ?_
    refine cw_seq ?_
    refine cw_seq ?_
    refine cw_region ?_
    refine sq_r (ry_move rfl) ?_
    refine sq_nil ?_
    refine ex_then ?_
    refine cw_cond rfl (fun h2 => ?_) (fun h2 => ?_)
    · exfalso; simp at h2
    · try simp only [Bool.and_eq_true, Bool.or_eq_true, Bool.and_eq_false_iff, Bool.or_eq_false_iff, Bool.not_eq_true', Bool.not_eq_false', decide_eq_true_eq, decide_eq_false_iff_not, Bool.not_eq_true, Bool.not_eq_false] at h2
      refine cw_skip ?_
      refine ex_then ?_
      refine cw_seq ?_
      refine cw_seq ?_
      refine cw_region ?_
      refine sq_r (ry_move rfl) ?_
      refine sq_r (ry_move rfl) ?_
      refine sq_r (ry_int rfl rfl rfl) ?_
      refine sq_nil ?_
      refine ex_then ?_
      refine cw_cond rfl (fun h3 => ?_) (fun h3 => ?_)
      · try simp only [Bool.and_eq_true, Bool.or_eq_true, Bool.and_eq_false_iff, Bool.or_eq_false_iff, Bool.not_eq_true', Bool.not_eq_false', decide_eq_true_eq, decide_eq_false_iff_not, Bool.not_eq_true, Bool.not_eq_false] at h3
        refine cw_seq ?_
        refine cw_region ?_
        refine sq_r (ry_assign rfl) ?_
        refine sq_nil ?_
        refine ex_then ?_
        refine cw_ret ?_
        refine ex_pass_ret ?_
        refine ex_ret (.inl rfl) (res_1 rfl (rv_tmp rfl)) (fun w1 hw => ?_)
        exact ⟨congrArg (fun b => Ending.returned (Value.int .i64 b)) ((by rw [if_pos ((ltn _ _).2 (by omega))])), Keep.mem hw⟩
      · try simp only [Bool.and_eq_true, Bool.or_eq_true, Bool.and_eq_false_iff, Bool.or_eq_false_iff, Bool.not_eq_true', Bool.not_eq_false', decide_eq_true_eq, decide_eq_false_iff_not, Bool.not_eq_true, Bool.not_eq_false] at h3
        refine cw_skip ?_
        refine ex_then ?_
        refine cw_seq ?_
        refine cw_seq ?_
        refine cw_region ?_
        refine sq_r (ry_move rfl) ?_
        refine sq_r (ry_move rfl) ?_
        refine sq_r (ry_int rfl rfl rfl) ?_
        refine sq_nil ?_
        refine ex_then ?_
        refine cw_cond rfl (fun h4 => ?_) (fun h4 => ?_)
        · try simp only [Bool.and_eq_true, Bool.or_eq_true, Bool.and_eq_false_iff, Bool.or_eq_false_iff, Bool.not_eq_true', Bool.not_eq_false', decide_eq_true_eq, decide_eq_false_iff_not, Bool.not_eq_true, Bool.not_eq_false] at h4
          refine cw_seq ?_
          refine cw_region ?_
          refine sq_r (ry_assign rfl) ?_
          refine sq_nil ?_
          refine ex_then ?_
          refine cw_ret ?_
          refine ex_pass_ret ?_
          refine ex_ret (.inl rfl) (res_1 rfl (rv_tmp rfl)) (fun w1 hw => ?_)
          exact ⟨congrArg (fun b => Ending.returned (Value.int .i64 b)) ((by rw [if_neg (fun h => by rw [ltn] at h; omega), if_pos ((ltn _ _).2 (by omega))])), Keep.mem hw⟩
        · try simp only [Bool.and_eq_true, Bool.or_eq_true, Bool.and_eq_false_iff, Bool.or_eq_false_iff, Bool.not_eq_true', Bool.not_eq_false', decide_eq_true_eq, decide_eq_false_iff_not, Bool.not_eq_true, Bool.not_eq_false] at h4
          refine cw_skip ?_
          refine ex_then ?_
          refine cw_seq ?_
          refine cw_region ?_
          refine sq_r (ry_assign rfl) ?_
          refine sq_nil ?_
          refine ex_then ?_
          refine cw_ret ?_
          refine ex_ret (.inl rfl) (res_1 rfl (rv_tmp rfl)) (fun w1 hw => ?_)
          exact ⟨congrArg (fun b => Ending.returned (Value.int .i64 b)) ((by rw [if_neg (fun h => by rw [ltn] at h; omega), if_neg (fun h => by rw [ltn] at h; omega)])), Keep.mem hw⟩
instance cmp16_i {w0 : World} {L : List Ent} {a : UInt16} {b : UInt16}  : FnQ Try.prog 130 w0 L [.int .u16 (a.toNat : Nat), .int .u16 (b.toNat : Nat)] (.int .i64 (if a < b then (-1 : Int) else if b < a then 1 else 0)) (True) := ⟨fun hp w hw => cmp16_c w a b ⟩
set_option maxRecDepth 20000 in
theorem gpl1_c (w : World) (g : Gp) (n : UInt16) (hg : Deep.good (hp w) g) : Calls Try.prog 129 #[.agg (gpcells g), .int .u16 (n.toNat : Nat)] w fun e w' => e = .returned (.int .i64 (if g.num < n then (-1 : Int) else if n < g.num then 1 else 0)) ∧ Mem w [] w' := by
  have ghg : GvD w g := ⟨hg⟩
  refine calls_of (args := [_, _]) Try.func129 rfl Try.ntmps129 rfl ?_
  change Cw _ _ _ _ _ [(0, .agg (gpcells g)), (1, .int .u16 (n.toNat : Nat))] []
  refine cw_seq ?_
  refine cw_region ?_
  refine sq_boxA rfl fun b2 => ?_
  refine sq_r (ry_assign rfl) ?_
  refine sq_nil ?_
  refine ex_then ?_
  refine cw_seq ?_
  refine cw_region ?_
  refine sq_r (ry_field (o' := 0) rfl rfl) ?_
  refine sq_r (ry_cellc rfl) ?_
  refine sq_r (ry_move rfl) ?_
  refine sq_y (yl_callC rfl trivial) ?_
  refine sq_r (ry_assign rfl) ?_
  refine sq_nil ?_
  refine ex_then ?_
  refine cw_ret ?_
  refine ex_ret (.inl rfl) (res_1 rfl (rv_tmp rfl)) (fun w1 hw => ?_)
  exact ⟨congrArg (fun b => Ending.returned (Value.int .i64 b)) (rfl), Keep.mem hw⟩
instance gpl1_i {w0 : World} {L : List Ent} {g : Gp} {n : UInt16} [hg : HdD w0 L g] : FnQ Try.prog 129 w0 L [.agg (gpcells g), .int .u16 (n.toNat : Nat)] (.int .i64 (if g.num < n then (-1 : Int) else if n < g.num then 1 else 0)) (True) := ⟨fun hp w hw => gpl1_c w g n (hg.h w hw)⟩
theorem cmp0 (a b : UInt16) : (if a < b then (-1 : Int) else if b < a then 1 else 0) = 0 ↔ a = b := by
  by_cases h1 : a < b
  · rw [if_pos h1]; exact ⟨fun h => by omega, fun h => absurd h (u16_ne h1)⟩
  · rw [if_neg h1]
    by_cases h2 : b < a
    · rw [if_pos h2]; exact ⟨fun h => by omega, fun h => absurd h.symm (u16_ne h2)⟩
    · rw [if_neg h2]; exact ⟨fun _ => UInt16.toNat_inj.1 (by rw [u16_lt] at h1 h2; omega), fun _ => rfl⟩
set_option maxRecDepth 20000 in
theorem gbsf_c (w : World) (l : Sl Gp) (n : UInt16) (hl : Deep.good (hp w) l) (hpre : l.xs.length ≤ 1000000) : Calls Try.prog 128 #[l.sv.val, .int .u16 (n.toNat : Nat), .func (.func 129) #[] #[]] w fun e w' => e = .returned (.tuple #[.int .i64 ((gplN (gvs l.xs) n) : Nat), .bool (gplB (gvs l.xs) n)]) ∧ Mem w [] w' := by
  have ghl : GvD w l := ⟨hl⟩
  have hgl := gvs_length l.xs
  have ltn : ∀ a b : UInt16, a < b ↔ (a.toNat : Int) < (b.toNat : Int) := fun a b => by rw [u16_lt]; omega
  refine calls_of (args := [_, _, _]) Try.func128 rfl Try.ntmps128 rfl ?_
  change Cw _ _ _ _ _ [(0, l.sv.val), (1, .int .u16 (n.toNat : Nat)), (2, .func (.func 129) #[] #[])] []
  refine cw_seq ?_
  refine cw_region ?_
  refine sq_r (ry_assign rfl) ?_
  refine sq_r (ry_assign rfl) ?_
  refine sq_nil ?_
  refine ex_then ?_
  refine cw_seq ?_
  refine cw_region ?_
  refine sq_r (ry_move rfl) ?_
  refine sq_r (ry_lenH rfl) ?_
  refine sq_r (ry_assign rfl) ?_
  refine sq_nil ?_
  refine ex_then ?_
  refine cw_seq ?_
  refine cw_region ?_
  refine sq_r (ry_move rfl) ?_
  refine sq_r (ry_assign rfl) ?_
  refine sq_r (ry_assign rfl) ?_
  refine sq_nil ?_
  refine ex_then ?_
  refine cw_seq ?_
  refine cw_block ?_
  refine cw_loop (X := Nat × Nat) (fun zz => [(9, .int .i64 (zz.1 : Nat)), (10, .int .i64 (zz.2 : Nat)), (0, l.sv.val), (1, .int .u16 (n.toNat : Nat)), (2, .func (.func 129) #[] #[]), (8, .int .i64 (l.xs.length : Nat))]) (fun zz => []) (fun zz => zz.1 ≤ zz.2 ∧ zz.2 ≤ l.xs.length ∧ bsl (gbehind (gvs l.xs) n) (l.xs.length + 1) zz.1 zz.2 = bsl (gbehind (gvs l.xs) n) (l.xs.length + 1) 0 l.xs.length) (fun zz => zz.2 - zz.1) (0, l.xs.length) ⟨Nat.zero_le _, Nat.le_refl _, rfl⟩ (Sub.cons rfl (Sub.cons rfl (Sub.cons rfl (Sub.cons rfl (Sub.cons rfl (Sub.cons rfl (Sub.nil _))))))) (fun w hw => Keep.mem hw) ?_
  rintro ⟨i, j⟩ ⟨hi1, hi2, hi3⟩
  dsimp only
  simp only at hi1 hi2 hi3
  refine cw_seq ?_
  refine cw_seq ?_
  refine cw_region ?_
  refine sq_r (ry_move rfl) ?_
  refine sq_r (ry_move rfl) ?_
  refine sq_r (ry_int rfl rfl rfl) ?_
  refine sq_nil ?_
  refine ex_then ?_
  refine cw_cond rfl (fun h0 => ?_) (fun h0 => ?_)
  · try simp only [Bool.and_eq_true, Bool.or_eq_true, Bool.and_eq_false_iff, Bool.or_eq_false_iff, Bool.not_eq_true', Bool.not_eq_false', decide_eq_true_eq, decide_eq_false_iff_not, Bool.not_eq_true, Bool.not_eq_false] at h0
    obtain ⟨x, hx⟩ := get_some (xs := l.xs) (i := (i + j) / 2) (by omega)
    have hbe : gbehind (gvs l.xs) n ((i + j) / 2) = !decide (x.num < n) := by rw [gbehind, gvs_get hx]; rfl
    refine cw_skip ?_
    refine ex_then ?_
    refine cw_block ?_
    refine cw_seq ?_
    refine cw_region ?_
    refine sq_r (ry_move rfl) ?_
    refine sq_r (ry_move rfl) ?_
    refine sq_r (ry_add rfl rfl (by omega)) ?_
    refine sq_r (ry_convn (n := i + j) rfl (by simp only [nb]; omega)) ?_
    refine sq_r (ry_shr (p := i + j) rfl rfl (by simp only [nb]; omega) (by omega)) ?_
    refine sq_r (ry_convn (n := (i + j) / 2 ^ 1) rfl (by simp only [nb]; omega)) ?_
    refine sq_r (ry_assign rfl) ?_
    refine sq_nil ?_
    refine ex_then ?_
    refine cw_seq ?_
    refine cw_region ?_
    refine sq_r (ry_move rfl) ?_
    refine sq_r (ry_move rfl) ?_
    refine sq_r (ry_move rfl) ?_
    refine sq_r (ry_idxH rfl rfl ((i + j) / 2) rfl (by omega)) ?_
    refine sq_r (ry_elemH rfl ((i + j) / 2) hx rfl) ?_
    refine sq_r (ry_move rfl) ?_
    refine sq_y (yl_fcall rfl rfl (fun w1 hw1 => gpl1_c w1 x n (((inferInstance : HdD w _ l).h w1 hw1).2 x (List.mem_of_getElem? hx)))) ?_
    refine sq_r (ry_int rfl rfl rfl) ?_
    refine sq_nil ?_
    refine ex_then ?_
    refine cw_cond rfl (fun h1 => ?_) (fun h1 => ?_)
    · try simp only [Bool.and_eq_true, Bool.or_eq_true, Bool.and_eq_false_iff, Bool.or_eq_false_iff, Bool.not_eq_true', Bool.not_eq_false', decide_eq_true_eq, decide_eq_false_iff_not, Bool.not_eq_true, Bool.not_eq_false] at h1
      have hlt : x.num < n := by
        apply Classical.byContradiction; intro hc
        rw [if_neg hc] at h1
        split at h1 <;> omega
      refine cw_region ?_
      refine sq_r (ry_move rfl) ?_
      refine sq_r (ry_add rfl rfl (by omega)) ?_
      refine sq_r (ry_assign rfl) ?_
      refine sq_nil ?_
      refine ex_block ?_
      exact ex_again (x := (i, j)) ((i + j) / 2 + 1, j) ⟨by first | omega | (simp only []; omega), hi2, by rw [← hi3, bsl_step (show i < j by first | omega | (simp only []; omega)) (by first | omega | (simp only []; omega)), if_neg (by rw [hbe, decide_eq_true hlt]; simp)]⟩ (by simp only; omega) (Sub.cons rfl (Sub.cons rfl (Sub.cons rfl (Sub.cons rfl (Sub.cons rfl (Sub.cons rfl (Sub.nil _))))))) (fun w hw => Keep.mem hw)
    · try simp only [Bool.and_eq_true, Bool.or_eq_true, Bool.and_eq_false_iff, Bool.or_eq_false_iff, Bool.not_eq_true', Bool.not_eq_false', decide_eq_true_eq, decide_eq_false_iff_not, Bool.not_eq_true, Bool.not_eq_false] at h1
      have hlt : ¬ x.num < n := fun hc => by rw [if_pos hc] at h1; omega
      refine cw_region ?_
      refine sq_r (ry_move rfl) ?_
      refine sq_r (ry_assign rfl) ?_
      refine sq_nil ?_
      refine ex_block ?_
      exact ex_again (x := (i, j)) (i, (i + j) / 2) ⟨by first | omega | (simp only []; omega), by first | omega | (simp only []; omega), by rw [← hi3, bsl_step (show i < j by first | omega | (simp only []; omega)) (by first | omega | (simp only []; omega)), if_pos (by rw [hbe, decide_eq_false hlt]; rfl)]⟩ (by simp only; omega) (Sub.cons rfl (Sub.cons rfl (Sub.cons rfl (Sub.cons rfl (Sub.cons rfl (Sub.cons rfl (Sub.nil _))))))) (fun w hw => Keep.mem hw)
  · try simp only [Bool.and_eq_true, Bool.or_eq_true, Bool.and_eq_false_iff, Bool.or_eq_false_iff, Bool.not_eq_true', Bool.not_eq_false', decide_eq_true_eq, decide_eq_false_iff_not, Bool.not_eq_true, Bool.not_eq_false] at h0
    have hz : gplN (gvs l.xs) n = i := by rw [gplN, bs, hgl, ← hi3, bsl_stop (by omega) (by omega)]
    refine cw_exit ?_
    refine ex_pass_exit ?_
    refine ex_pass_exit ?_
    refine ex_block_hit ?_
    refine ex_then ?_
    refine cw_seq ?_
    refine cw_region ?_
    refine sq_r (ry_move rfl) ?_
    refine sq_r (ry_move rfl) ?_
    refine sq_r (ry_move rfl) ?_
    refine sq_r (ry_int rfl rfl rfl) ?_
    refine sq_r (ry_move rfl) ?_
    refine sq_gt rfl rfl rfl (fun hg => (Ry.yl (ry_move rfl))) ?_
    refine sq_gt rfl rfl rfl (fun hg => (Ry.yl (ry_move rfl))) ?_
    refine sq_gt rfl rfl rfl (fun hg => (Ry.yl (ry_move rfl))) ?_
    refine sq_gt rfl rfl rfl (fun hg => (Ry.yl (ry_idxH (ev_c hg rfl) (ev_c hg rfl) i rfl (by simp only [Bool.and_eq_true, Bool.or_eq_true, Bool.and_eq_false_iff, Bool.or_eq_false_iff, Bool.not_eq_true', Bool.not_eq_false', decide_eq_true_eq, decide_eq_false_iff_not, Bool.not_eq_true, Bool.not_eq_false] at hg; omega)))) ?_
    refine sq_gt rfl rfl rfl (fun hg => (Ry.yl (ry_elemH (ev_c hg rfl) i (get_getD (xs := l.xs) (i := i) (d := zgp) (by simp only [decide_eq_true_eq] at hg; omega)) rfl))) ?_
    refine sq_gt rfl rfl rfl (fun hg => (Ry.yl (ry_move rfl))) ?_
    refine sq_gt rfl rfl rfl (fun hg => yl_fcall (ev_c hg rfl) (evl_cons (ev_c hg rfl) (evl_cons (ev_c hg rfl) evl_nil)) (fun w1 hw1 => gpl1_c w1 (l.xs.getD i zgp) n (((inferInstance : HdD w _ l).h w1 hw1).2 _ (List.mem_of_getElem? (get_getD (xs := l.xs) (i := i) (d := zgp) (by simp only [decide_eq_true_eq] at hg; omega)))))) ?_
    refine sq_gt rfl rfl rfl (fun hg => (Ry.yl (ry_int (ev_c hg rfl) rfl rfl))) ?_
    refine sq_r (ry_and rfl rfl rfl) ?_
    refine sq_r (ry_assign rfl) ?_
    refine sq_r (ry_assign rfl) ?_
    refine sq_nil ?_
    refine ex_then ?_
    refine cw_ret ?_
    refine ex_ret (.inl rfl) (res_2 rfl (rv_tmp rfl) (rv_tmp rfl)) (fun w1 hw => ?_)
    exact ⟨(by rw [gplB_eq _ _ (gval zgp), hz, hgl, show ((gvs l.xs).getD i (gval zgp)).1 = (l.xs.getD i zgp).num from by simp only [gvs, List.getD, List.getElem?_map]; cases l.xs[i]? <;> rfl]; congr 3; by_cases hc : ((i : Nat) : Int) < (l.xs.length : Int) <;> simp [hc]; exact cmp0 _ _), Keep.mem hw⟩
instance gbsf_i {w0 : World} {L : List Ent} {l : Sl Gp} {n : UInt16} [hl : HdD w0 L l] : FnQ Try.prog 128 w0 L [l.sv.val, .int .u16 (n.toNat : Nat), .func (.func 129) #[] #[]] (.tuple #[.int .i64 ((gplN (gvs l.xs) n) : Nat), .bool (gplB (gvs l.xs) n)]) (l.xs.length ≤ 1000000) := ⟨fun hp w hw => gbsf_c w l n (hl.h w hw) hp⟩
set_option maxRecDepth 20000 in
theorem gplace_c (w : World) (l : Sl Gp) (n : UInt16) (hl : Deep.good (hp w) l) (hpre : l.xs.length ≤ 1000000) : Calls Try.prog 87 #[l.sv.val, .int .u16 (n.toNat : Nat)] w fun e w' => e = .returned (.tuple #[.int .i64 ((gplN (gvs l.xs) n) : Nat), .bool (gplB (gvs l.xs) n)]) ∧ Mem w [] w' := by
  have ghl : GvD w l := ⟨hl⟩
  refine calls_of (args := [_, _]) Try.func87 rfl Try.ntmps87 rfl ?_
  change Cw _ _ _ _ _ [(0, l.sv.val), (1, .int .u16 (n.toNat : Nat))] []
  refine cw_seq ?_
  refine cw_region ?_
  refine sq_r (ry_assign rfl) ?_
  refine sq_r (ry_assign rfl) ?_
  refine sq_nil ?_
  refine ex_then ?_
  refine cw_seq ?_
  refine cw_region ?_
  refine sq_r (ry_move rfl) ?_
  refine sq_r (ry_move rfl) ?_
  refine sq_y (yl_callC rfl (by omega)) ?_
  refine sq_r (ry_extract (v := .int .i64 ((gplN (gvs l.xs) n) : Nat)) rfl rfl) ?_
  refine sq_r (ry_extract (v := .bool (gplB (gvs l.xs) n)) rfl rfl) ?_
  refine sq_r (ry_assign rfl) ?_
  refine sq_r (ry_assign rfl) ?_
  refine sq_nil ?_
  refine ex_then ?_
  refine cw_ret ?_
  refine ex_ret (.inl rfl) (res_2 rfl (rv_tmp rfl) (rv_tmp rfl)) (fun w1 hw => ?_)
  exact ⟨rfl, Keep.mem hw⟩
instance gplace_i {w0 : World} {L : List Ent} {l : Sl Gp} {n : UInt16} [hl : HdD w0 L l] : FnQ Try.prog 87 w0 L [l.sv.val, .int .u16 (n.toNat : Nat)] (.tuple #[.int .i64 ((gplN (gvs l.xs) n) : Nat), .bool (gplB (gvs l.xs) n)]) (l.xs.length ≤ 1000000) := ⟨fun hp w hw => gplace_c w l n (hl.h w hw) hp⟩

end Go.Proofs.Ytajhlgdapiihgaa

/- A member is picked: walked. -/
set_option linter.unusedSimpArgs false
set_option linter.unusedVariables false
namespace Go.Proofs.Ytajhlgdapiihgaa
open Go.Eng Go.Kb
set_option maxRecDepth 20000 in
theorem gpick_c (w : World) (l : Sl Gp) (n : UInt16) (h : UInt32) (hl : Deep.good (hp w) l) : Calls Try.prog 42 #[l.sv.val, .int .u16 (n.toNat : Nat), .int .u32 (h.toNat : Nat)] w fun e w' => e = .returned (.tuple #[.int .u16 ((pickH (gvs l.xs) n h.toNat).toNat : Nat), .int .i64 (pickE (gvs l.xs) n h.toNat)]) ∧ Mem w [] w' := by
  have ghl : GvD w l := ⟨hl⟩
  have hgl := gvs_length l.xs
  have hhl := h.toNat_lt
  refine calls_of (args := [_, _, _]) Try.func42 rfl Try.ntmps42 rfl ?_
  change Cw _ _ _ _ _ [(0, l.sv.val), (1, .int .u16 (n.toNat : Nat)), (2, .int .u32 (h.toNat : Nat))] []
  refine cw_seq ?_
  refine cw_region ?_
  refine sq_r (ry_assign rfl) ?_
  refine sq_r (ry_assign rfl) ?_
  refine sq_nil ?_
  refine ex_then ?_
  refine cw_seq ?_
  refine cw_seq ?_
  refine cw_region ?_
  refine sq_r (ry_move rfl) ?_
  refine sq_y (yl_callC rfl trivial) ?_
  refine sq_r (ry_not rfl) ?_
  refine sq_nil ?_
  refine ex_then ?_
  refine cw_cond rfl (fun h0 => ?_) (fun h0 => ?_)
  · try simp only [Bool.and_eq_true, Bool.or_eq_true, Bool.and_eq_false_iff, Bool.or_eq_false_iff, Bool.not_eq_true', Bool.not_eq_false', decide_eq_true_eq, decide_eq_false_iff_not, Bool.not_eq_true, Bool.not_eq_false] at h0
    have hE : pickE (gvs l.xs) n h.toNat = 1 := if_neg (by rw [h0]; simp)
    have hH : pickH (gvs l.xs) n h.toNat = 0 := if_neg (by rw [hE]; decide)
    refine cw_seq ?_
    refine cw_region ?_
    refine sq_r (ry_assign rfl) ?_
    refine sq_r (ry_assign rfl) ?_
    refine sq_nil ?_
    refine ex_then ?_
    refine cw_ret ?_
    refine ex_pass_ret ?_
    refine ex_ret (.inl rfl) (res_2 rfl (rv_tmp rfl) (rv_tmp rfl)) (fun w1 hw => ?_)
    exact ⟨by rw [hE, hH]; rfl, Keep.mem hw⟩
  · try simp only [Bool.and_eq_true, Bool.or_eq_true, Bool.and_eq_false_iff, Bool.or_eq_false_iff, Bool.not_eq_true', Bool.not_eq_false', decide_eq_true_eq, decide_eq_false_iff_not, Bool.not_eq_true, Bool.not_eq_false] at h0
    have hg : gall (gvs l.xs) = true := by simpa using h0
    have hl64 := (gall_iff.1 hg).1
    refine cw_skip ?_
    refine ex_then ?_
    refine cw_seq ?_
    refine cw_region ?_
    refine sq_r (ry_move rfl) ?_
    refine sq_r (ry_move rfl) ?_
    refine sq_y (yl_callC rfl (by omega)) ?_
    refine sq_r (ry_move rfl) ?_
    refine sq_r (ry_extract (v := .int .i64 ((gplN (gvs l.xs) n) : Nat)) rfl rfl) ?_
    refine sq_r (ry_extract (v := .bool (gplB (gvs l.xs) n)) rfl rfl) ?_
    refine sq_r (ry_assign rfl) ?_
    refine sq_r (ry_assign rfl) ?_
    refine sq_nil ?_
    refine ex_then ?_
    refine cw_seq ?_
    refine cw_seq ?_
    refine cw_region ?_
    refine sq_r (ry_move rfl) ?_
    refine sq_r (ry_not rfl) ?_
    refine sq_nil ?_
    refine ex_then ?_
    refine cw_cond rfl (fun h1 => ?_) (fun h1 => ?_)
    · try simp only [Bool.and_eq_true, Bool.or_eq_true, Bool.and_eq_false_iff, Bool.or_eq_false_iff, Bool.not_eq_true', Bool.not_eq_false', decide_eq_true_eq, decide_eq_false_iff_not, Bool.not_eq_true, Bool.not_eq_false] at h1
      have hE : pickE (gvs l.xs) n h.toNat = 6 := by rw [pickE, if_pos hg, if_neg (by rw [h1]; simp)]
      have hH : pickH (gvs l.xs) n h.toNat = 0 := if_neg (by rw [hE]; decide)
      refine cw_seq ?_
      refine cw_region ?_
      refine sq_r (ry_assign rfl) ?_
      refine sq_r (ry_assign rfl) ?_
      refine sq_nil ?_
      refine ex_then ?_
      refine cw_ret ?_
      refine ex_pass_ret ?_
      refine ex_ret (.inl rfl) (res_2 rfl (rv_tmp rfl) (rv_tmp rfl)) (fun w1 hw => ?_)
      exact ⟨by rw [hE, hH]; rfl, Keep.mem hw⟩
    · try simp only [Bool.and_eq_true, Bool.or_eq_true, Bool.and_eq_false_iff, Bool.or_eq_false_iff, Bool.not_eq_true', Bool.not_eq_false', decide_eq_true_eq, decide_eq_false_iff_not, Bool.not_eq_true, Bool.not_eq_false] at h1
      have hb : gplB (gvs l.xs) n = true := by simpa using h1
      obtain ⟨y, hy, hy2, hy3⟩ := gpl_in hb
      have hNl : (gplN (gvs l.xs) n) < l.xs.length := by have := (List.getElem?_eq_some_iff.1 hy2).1; omega
      obtain ⟨x, hx⟩ := get_some (xs := l.xs) (i := (gplN (gvs l.xs) n)) hNl
      have mbx : Mb x _ := ⟨List.mem_of_getElem? hx⟩
      have e1 : (gvs l.xs).getD (gplN (gvs l.xs) n) (0, []) = gval x := by rw [List.getD, gvs_get hx]; rfl
      have hgx : gok x.ms.xs = true := (gall_iff.1 hg).2.1 (gval x) (List.mem_of_getElem? (gvs_get hx))
      obtain ⟨k1, k2, k3⟩ := gwt_ok hgx
      obtain ⟨q1, q2, q3, _⟩ := gok_iff.1 hgx
      have hml : (h.toNat % (gwt x.ms.xs).toNat) < (gwt x.ms.xs).toNat := Nat.mod_lt _ (by omega)
      have ep : pickAt (gvs l.xs) n h.toNat = pickM x.ms.xs (((h.toNat % (gwt x.ms.xs).toNat) : Nat) : Int) := by rw [pickAt, e1]; rfl
      have eE : pickE (gvs l.xs) n h.toNat = (if (pickM x.ms.xs (((h.toNat % (gwt x.ms.xs).toNat) : Nat) : Int)).isSome = true then 0 else 6) := by rw [pickE, if_pos hg, if_pos hb, ep]
      refine cw_skip ?_
      refine ex_then ?_
      refine cw_seq ?_
      refine cw_region ?_
      refine sq_r (ry_move rfl) ?_
      refine sq_r (ry_move rfl) ?_
      refine sq_r (ry_move rfl) ?_
      refine sq_r (ry_idxH rfl rfl (gplN (gvs l.xs) n) rfl (by omega)) ?_
      refine sq_r (ry_elemH rfl (gplN (gvs l.xs) n) hx rfl) ?_
      refine sq_y (yl_callC rfl trivial) ?_
      refine sq_r (Ry.to (v' := .int .u32 (((gwt x.ms.xs).toNat : Nat) : Int)) (ry_convi rfl (by omega) (by simp only [nb]; omega)) (by congr 1; omega)) ?_
      refine sq_r (ry_remn (p := h.toNat) (q := (gwt x.ms.xs).toNat) rfl rfl rfl rfl (by omega)) ?_
      refine sq_r (ry_convn rfl (by simp only [nb]; omega)) ?_
      refine sq_r (ry_assign rfl) ?_
      refine sq_nil ?_
      refine ex_then ?_
      refine cw_seq ?_
      refine cw_seq ?_
      refine cw_region ?_
      refine sq_r (ry_move rfl) ?_
      refine sq_r (ry_move rfl) ?_
      refine sq_r (ry_idxH rfl rfl (gplN (gvs l.xs) n) rfl (by omega)) ?_
      refine sq_r (ry_field rfl rfl) ?_
      refine sq_r (ry_elemcH (j := 1) rfl (gplN (gvs l.xs) n) hx rfl (by decide)) ?_
      have mb37 : Mb x _ := ⟨List.mem_of_getElem? hx⟩
      refine sq_r (ry_lenH rfl) ?_
      refine sq_r (ry_move rfl) ?_
      refine sq_nil ?_
      refine ex_then ?_
      refine cw_block ?_
      refine cw_loop (X := Nat × Int) (fun zz => [(39, .int .i64 (zz.1 : Nat)), (10, .int .i64 zz.2), (37, x.ms.sv.val), (38, .int .i64 (x.ms.xs.length : Nat))]) (fun zz => []) (fun zz => zz.1 ≤ x.ms.xs.length ∧ pickM x.ms.xs (((h.toNat % (gwt x.ms.xs).toNat) : Nat) : Int) = pickM (x.ms.xs.drop zz.1) zz.2 ∧ 0 ≤ zz.2 ∧ zz.2 ≤ 1600) (fun zz => x.ms.xs.length - zz.1) (0, (((h.toNat % (gwt x.ms.xs).toNat) : Nat) : Int)) ⟨Nat.zero_le _, by rw [List.drop_zero], by simp only; omega, by simp only; omega⟩ (Sub.cons rfl (Sub.cons rfl (Sub.cons rfl (Sub.cons rfl (Sub.nil _))))) (fun w hw => Keep.mem hw) ?_
      rintro ⟨k, lf⟩ ⟨hi1, hi2, hi3, hi4⟩
      dsimp only
      simp only at hi1 hi2 hi3 hi4
      refine cw_seq ?_
      refine cw_region ?_
      refine sq_r (ry_int rfl rfl rfl) ?_
      refine sq_nil ?_
      refine ex_then ?_
      refine cw_seq ?_
      refine cw_cond rfl (fun h2 => ?_) (fun h2 => ?_)
      · try simp only [Bool.and_eq_true, Bool.or_eq_true, Bool.and_eq_false_iff, Bool.or_eq_false_iff, Bool.not_eq_true', Bool.not_eq_false', decide_eq_true_eq, decide_eq_false_iff_not, Bool.not_eq_true, Bool.not_eq_false] at h2
        obtain ⟨m, hm⟩ := get_some (xs := x.ms.xs) (i := k) (by omega)
        have hmb := q3 m (List.mem_of_getElem? hm)
        have hst : pickM (x.ms.xs.drop k) lf = if lf < m.w then some m.hop else pickM (x.ms.xs.drop (k + 1)) (lf - m.w) := by rw [dropAt hm, pickM]
        refine cw_skip ?_
        refine ex_then ?_
        refine cw_seq ?_
        refine cw_block ?_
        refine cw_seq ?_
        refine cw_region ?_
        refine sq_r (ry_idxH rfl rfl k rfl (by omega)) ?_
        refine sq_r (ry_elemH rfl k hm rfl) ?_
        refine sq_allocA fun b12 => ?_
        refine sq_storeW rfl rfl ?_
        refine sq_nil ?_
        refine ex_then ?_
        refine cw_seq ?_
        refine cw_seq ?_
        refine cw_region ?_
        refine sq_r (ry_move rfl) ?_
        refine sq_r (ry_field (o' := 1) rfl rfl) ?_
        refine sq_r (ry_cellc rfl) ?_
        refine sq_r (ry_int rfl rfl rfl) ?_
        refine sq_nil ?_
        refine ex_then ?_
        refine cw_cond rfl (fun h3 => ?_) (fun h3 => ?_)
        · try simp only [Bool.and_eq_true, Bool.or_eq_true, Bool.and_eq_false_iff, Bool.or_eq_false_iff, Bool.not_eq_true', Bool.not_eq_false', decide_eq_true_eq, decide_eq_false_iff_not, Bool.not_eq_true, Bool.not_eq_false] at h3
          have hsome : pickM x.ms.xs (((h.toNat % (gwt x.ms.xs).toNat) : Nat) : Int) = some m.hop := by rw [hi2, hst, if_pos h3]
          have hE : pickE (gvs l.xs) n h.toNat = 0 := by rw [eE, hsome]; rfl
          have hH : pickH (gvs l.xs) n h.toNat = m.hop := by rw [pickH, if_pos hE, ep, hsome]; rfl
          refine cw_seq ?_
          refine cw_region ?_
          refine sq_r (ry_field (o' := 0) rfl rfl) ?_
          refine sq_r (ry_cellc rfl) ?_
          refine sq_r (ry_assign rfl) ?_
          refine sq_r (ry_assign rfl) ?_
          refine sq_nil ?_
          refine ex_then ?_
          refine cw_ret ?_
          refine ex_pass_ret ?_
          refine ex_block_ret ?_
          refine ex_pass_ret ?_
          refine ex_pass_ret ?_
          refine ex_block_ret ?_
          refine ex_pass_ret ?_
          refine ex_ret (.inl rfl) (res_2 rfl (rv_tmp rfl) (rv_tmp rfl)) (fun w1 hw => ?_)
          exact ⟨by rw [hE, hH], Keep.mem hw⟩
        · try simp only [Bool.and_eq_true, Bool.or_eq_true, Bool.and_eq_false_iff, Bool.or_eq_false_iff, Bool.not_eq_true', Bool.not_eq_false', decide_eq_true_eq, decide_eq_false_iff_not, Bool.not_eq_true, Bool.not_eq_false] at h3
          rw [if_neg h3] at hst
          refine cw_skip ?_
          refine ex_then ?_
          refine cw_region ?_
          refine sq_r (ry_move rfl) ?_
          refine sq_r (ry_field (o' := 1) rfl rfl) ?_
          refine sq_r (ry_cellc rfl) ?_
          refine sq_r (ry_sub rfl rfl (by omega)) ?_
          refine sq_r (ry_assign rfl) ?_
          refine sq_nil ?_
          refine ex_block ?_
          refine ex_then ?_
          refine cw_region ?_
          refine sq_r (ry_add rfl rfl (by omega)) ?_
          refine sq_r (ry_move rfl) ?_
          refine sq_nil ?_
          exact ex_again (x := (k, lf)) (k + 1, lf - m.w) ⟨by first | omega | (simp only []; omega), by rw [hi2, hst], by simp only; omega, by simp only; omega⟩ (by simp only; omega) (Sub.cons rfl (Sub.cons rfl (Sub.cons rfl (Sub.cons rfl (Sub.nil _))))) (fun w hw => Keep.mem hw)
      · try simp only [Bool.and_eq_true, Bool.or_eq_true, Bool.and_eq_false_iff, Bool.or_eq_false_iff, Bool.not_eq_true', Bool.not_eq_false', decide_eq_true_eq, decide_eq_false_iff_not, Bool.not_eq_true, Bool.not_eq_false] at h2
        have hnone : pickM x.ms.xs (((h.toNat % (gwt x.ms.xs).toNat) : Nat) : Int) = none := by rw [hi2, List.drop_of_length_le (by omega)]; rfl
        have hE : pickE (gvs l.xs) n h.toNat = 6 := by rw [eE, hnone]; rfl
        have hH : pickH (gvs l.xs) n h.toNat = 0 := if_neg (by rw [hE]; decide)
        refine cw_exit ?_
        refine ex_pass_exit ?_
        refine ex_pass_exit ?_
        refine ex_block_hit ?_
        refine ex_then ?_
        refine cw_seq ?_
        refine cw_region ?_
        refine sq_r (ry_assign rfl) ?_
        refine sq_r (ry_assign rfl) ?_
        refine sq_nil ?_
        refine ex_then ?_
        refine cw_ret ?_
        refine ex_ret (.inl rfl) (res_2 rfl (rv_tmp rfl) (rv_tmp rfl)) (fun w1 hw => ?_)
        exact ⟨by rw [hE, hH]; rfl, Keep.mem hw⟩
instance gpick_i {w0 : World} {L : List Ent} {l : Sl Gp} {n : UInt16} {h : UInt32} [hl : HdD w0 L l] : FnQ Try.prog 42 w0 L [l.sv.val, .int .u16 (n.toNat : Nat), .int .u32 (h.toNat : Nat)] (.tuple #[.int .u16 ((pickH (gvs l.xs) n h.toNat).toNat : Nat), .int .i64 (pickE (gvs l.xs) n h.toNat)]) (True) := ⟨fun hp w hw => gpick_c w l n h (hl.h w hw)⟩

end Go.Proofs.Ytajhlgdapiihgaa

/- Groups copied; slices.Insert and slices.Delete of groups: walked. -/
set_option linter.unusedSimpArgs false
set_option linter.unusedVariables false
namespace Go.Proofs.Ytajhlgdapiihgaa
open Go.Eng Go.Kb
theorem gvs_same {zs : List Gp} {i : Nat} {z : Gp} (h : zs[i]? = some z) (s : Sv) : gvs (zs.set i ⟨z.num, ⟨s, z.ms.xs⟩⟩) = gvs zs := by
  rw [gvs, List.map_set]
  have : gval ⟨z.num, ⟨s, z.ms.xs⟩⟩ = gval z := rfl
  rw [this]
  obtain ⟨hi, rfl⟩ := List.getElem?_eq_some_iff.1 h
  refine List.ext_getElem? fun j => ?_
  rw [List.getElem?_set]
  by_cases hj : i = j
  · subst hj; rw [if_pos rfl, if_pos (by simpa using hi)]; simp [hi, gvs]
  · rw [if_neg hj]; rfl
set_option maxRecDepth 20000 in
theorem gcloneG_c (w : World) (s : Sv) (ss : List Gp) (hs : Lies gpcells 2 (hp w) s ss) (hpre : ss.length ≤ 1000000) : Calls Try.prog 131 #[s.val] w fun e w' => ∃ zz : Sv, e = .returned (zz.val) ∧ (True) ∧ Mem w [own gpcells 2 zz ss] w' := by
  have ghs : Gv w s gpcells 2 ss := ⟨hs⟩
  refine calls_of (args := [_]) Try.func131 rfl Try.ntmps131 rfl ?_
  change Cw _ _ _ _ _ [(0, s.val)] []
  refine cw_seq ?_
  refine cw_region ?_
  refine sq_r (ry_assign rfl) ?_
  refine sq_nil ?_
  refine ex_then ?_
  refine cw_seq ?_
  refine cw_seq ?_
  refine cw_region ?_
  refine sq_r (ry_move rfl) ?_
  refine sq_r (ry_nilS Try.underlying57 rfl) ?_
  refine sq_nil ?_
  refine ex_then ?_
  refine cw_cond rfl (fun h0 => ?_) (fun h0 => ?_)
  · try simp only [Bool.and_eq_true, Bool.or_eq_true, Bool.and_eq_false_iff, Bool.or_eq_false_iff, Bool.not_eq_true', Bool.not_eq_false', decide_eq_true_eq, decide_eq_false_iff_not, Bool.not_eq_true, Bool.not_eq_false] at h0
    have e0 : ss = [] := List.length_eq_zero_iff.1 (by have := hs.ok.nil h0; have := hs.len; omega)
    refine cw_seq ?_
    refine cw_region ?_
    refine sq_r (ry_assign rfl) ?_
    refine sq_nil ?_
    refine ex_then ?_
    refine cw_ret ?_
    refine ex_pass_ret ?_
    refine ex_ret (.inl rfl) (res_1 rfl (rv_tmp rfl)) (fun w1 hw => ?_)
    exact ⟨Sv.none, rfl, trivial, by rw [e0]; exact (Keep.mem hw : Mem w [] _).nilOwn gpcells 2⟩
  · try simp only [Bool.and_eq_true, Bool.or_eq_true, Bool.and_eq_false_iff, Bool.or_eq_false_iff, Bool.not_eq_true', Bool.not_eq_false', decide_eq_true_eq, decide_eq_false_iff_not, Bool.not_eq_true, Bool.not_eq_false] at h0
    refine cw_skip ?_
    refine ex_then ?_
    refine cw_seq ?_
    refine cw_region ?_
    refine sq_build0 gpcells fun b5 => ?_
    refine sq_r (ry_move rfl) ?_
    refine sq_append (s := ⟨false, b5, 0, 0, 0, none⟩) (enc := gpcells) (ys := ss) rfl rfl (by decide) (fun w hw => src_rows (s := s) Try.underlying57 (by decide) ((inferInstance : HdE _ _ gpcells 2 s ss).h w hw)) (by simp only [List.length_nil]; omega) (by simp only [List.length_nil]; omega) fun s7 hs7 hl7 => ?_
    refine sq_r (ry_assign rfl) ?_
    refine sq_nil ?_
    refine ex_then ?_
    refine cw_ret ?_
    refine ex_ret (.inl rfl) (res_1 rfl (rv_tmp rfl)) (fun w1 hw => ?_)
    exact ⟨s7, rfl, trivial, by rw [List.nil_append] at hw; exact Keep.mem hw⟩
instance gcloneG_i {w0 : World} {L : List Ent} {s : Sv} {ss : List Gp} [hs : HdE w0 L gpcells 2 s ss] : FnC Try.prog 131 w0 L [s.val] (Sv) (fun zz => zz.val) (fun zz => own gpcells 2 zz ss :: L) (fun zz => True) (ss.length ≤ 1000000) := ⟨fun hp w hw => (gcloneG_c w s ss (hs.h w hw) hp).mono fun e w' ⟨x, h1, h2, h3⟩ => ⟨x, h1, h2, hw.call h3⟩⟩
set_option maxRecDepth 20000 in
theorem gcloneM_c (w : World) (s : Sv) (ss : List Mr) (hs : Lies mrcells 2 (hp w) s ss) (hpre : ss.length ≤ 140737488355328 / 100) : Calls Try.prog 91 #[s.val] w fun e w' => ∃ zz : Sv, e = .returned (zz.val) ∧ (True) ∧ Mem w [own mrcells 2 zz ss] w' := by
  have ghs : Gv w s mrcells 2 ss := ⟨hs⟩
  refine calls_of (args := [_]) Try.func91 rfl Try.ntmps91 rfl ?_
  change Cw _ _ _ _ _ [(0, s.val)] []
  refine cw_seq ?_
  refine cw_region ?_
  refine sq_r (ry_assign rfl) ?_
  refine sq_nil ?_
  refine ex_then ?_
  refine cw_seq ?_
  refine cw_seq ?_
  refine cw_region ?_
  refine sq_r (ry_move rfl) ?_
  refine sq_r (ry_nilS Try.underlying49 rfl) ?_
  refine sq_nil ?_
  refine ex_then ?_
  refine cw_cond rfl (fun h0 => ?_) (fun h0 => ?_)
  · try simp only [Bool.and_eq_true, Bool.or_eq_true, Bool.and_eq_false_iff, Bool.or_eq_false_iff, Bool.not_eq_true', Bool.not_eq_false', decide_eq_true_eq, decide_eq_false_iff_not, Bool.not_eq_true, Bool.not_eq_false] at h0
    have e0 : ss = [] := List.length_eq_zero_iff.1 (by have := hs.ok.nil h0; have := hs.len; omega)
    refine cw_seq ?_
    refine cw_region ?_
    refine sq_r (ry_assign rfl) ?_
    refine sq_nil ?_
    refine ex_then ?_
    refine cw_ret ?_
    refine ex_pass_ret ?_
    refine ex_ret (.inl rfl) (res_1 rfl (rv_tmp rfl)) (fun w1 hw => ?_)
    exact ⟨Sv.none, rfl, trivial, by rw [e0]; exact (Keep.mem hw : Mem w [] _).nilOwn mrcells 2⟩
  · try simp only [Bool.and_eq_true, Bool.or_eq_true, Bool.and_eq_false_iff, Bool.or_eq_false_iff, Bool.not_eq_true', Bool.not_eq_false', decide_eq_true_eq, decide_eq_false_iff_not, Bool.not_eq_true, Bool.not_eq_false] at h0
    refine cw_skip ?_
    refine ex_then ?_
    refine cw_seq ?_
    refine cw_region ?_
    refine sq_build0 mrcells fun b5 => ?_
    refine sq_r (ry_move rfl) ?_
    refine sq_append (s := ⟨false, b5, 0, 0, 0, none⟩) (ys := ss) rfl rfl (by decide) (fun w hw => src_rows (s := s) Try.underlying49 (by decide) ((inferInstance : Hd _ _ s mrcells 2 ss).h w hw)) (by simp only [List.length_nil]; omega) (by simp only [List.length_nil]; omega) fun s7 hs7 hl7 => ?_
    refine sq_r (ry_assign rfl) ?_
    refine sq_nil ?_
    refine ex_then ?_
    refine cw_ret ?_
    refine ex_ret (.inl rfl) (res_1 rfl (rv_tmp rfl)) (fun w1 hw => ?_)
    exact ⟨s7, rfl, trivial, by rw [List.nil_append] at hw; exact Keep.mem hw⟩
instance gcloneM_i {w0 : World} {L : List Ent} {s : Sv} {ss : List Mr} [hs : HdE w0 L mrcells 2 s ss] : FnC Try.prog 91 w0 L [s.val] (Sv) (fun zz => zz.val) (fun zz => own mrcells 2 zz ss :: L) (fun zz => True) (ss.length ≤ 140737488355328 / 100) := ⟨fun hp w hw => (gcloneM_c w s ss (hs.h w hw) hp).mono fun e w' ⟨x, h1, h2, h3⟩ => ⟨x, h1, h2, hw.call h3⟩⟩
set_option maxRecDepth 20000 in
theorem gcopied_c (w : World) (l : Sl Gp) (hl : Deep.good (hp w) l) (hpre : l.xs.length ≤ 1000000 ∧ ∀ x ∈ l.xs, x.ms.xs.length ≤ 1000000) : Calls Try.prog 90 #[l.sv.val] w fun e w' => ∃ zz : Sl Gp × List Ent, e = .returned (zz.1.sv.val) ∧ (InBag zz.1.xs zz.2 ∧ gvs zz.1.xs = gvs l.xs) ∧ Mem w [own gpcells 2 zz.1.sv zz.1.xs, Ent.all zz.2] w' := by
  have ghl : GvD w l := ⟨hl⟩
  obtain ⟨hp1, hp2⟩ := hpre
  refine calls_of (args := [_]) Try.func90 rfl Try.ntmps90 rfl ?_
  change Cw _ _ _ _ _ [(0, l.sv.val)] []
  refine cw_seq ?_
  refine cw_region ?_
  refine sq_r (ry_assign rfl) ?_
  refine sq_nil ?_
  refine ex_then ?_
  refine cw_seq ?_
  refine cw_region ?_
  refine sq_r (ry_move rfl) ?_
  refine sq_callC rfl (by omega) fun x5 hp5 => ?_
  refine sq_r (ry_assign rfl) ?_
  refine sq_nil ?_
  refine ex_then ?_
  refine cw_seq ?_
  refine cw_seq ?_
  refine cw_region ?_
  refine sq_r (ry_move rfl) ?_
  refine sq_r (ry_lenH rfl) ?_
  refine sq_r (ry_move rfl) ?_
  refine sq_nil ?_
  refine ex_then ?_
  refine cw_block ?_
  refine cw_loop (X := Nat × List Gp × List Ent) (fun zz => [(8, .int .i64 (zz.1 : Nat)), (0, x5.val), (7, .int .i64 (l.xs.length : Nat))]) (fun zz => [own gpcells 2 x5 zz.2.1, Ent.all zz.2.2]) (fun zz => zz.1 ≤ l.xs.length ∧ zz.2.1.length = l.xs.length ∧ gvs zz.2.1 = gvs l.xs ∧ (∀ j, zz.1 ≤ j → zz.2.1[j]? = l.xs[j]?) ∧ ∀ z ∈ zz.2.1.take zz.1, Deep.ent z ∈ zz.2.2) (fun zz => l.xs.length - zz.1) (0, l.xs, []) ⟨Nat.zero_le _, rfl, rfl, fun j _ => rfl, by simp⟩ (Sub.cons rfl (Sub.cons rfl (Sub.cons rfl (Sub.nil _)))) (fun w hw => Keep.mem (Mem.bag0 hw)) ?_
  rintro ⟨i, zs, es⟩ ⟨hi1, hi2, hi3, hi4, hi5⟩
  dsimp only
  simp only at hi1 hi2 hi3 hi4 hi5
  refine cw_seq ?_
  refine cw_region ?_
  refine sq_r (ry_int rfl rfl rfl) ?_
  refine sq_nil ?_
  refine ex_then ?_
  refine cw_seq ?_
  refine cw_cond rfl (fun h0 => ?_) (fun h0 => ?_)
  · try simp only [Bool.and_eq_true, Bool.or_eq_true, Bool.and_eq_false_iff, Bool.or_eq_false_iff, Bool.not_eq_true', Bool.not_eq_false', decide_eq_true_eq, decide_eq_false_iff_not, Bool.not_eq_true, Bool.not_eq_false] at h0
    obtain ⟨z, hz⟩ := get_some (xs := zs) (i := i) (by omega)
    have hzl : l.xs[i]? = some z := by rw [← hi4 i (Nat.le_refl _)]; exact hz
    have mbz : Mb z l := ⟨List.mem_of_getElem? hzl⟩
    have hzm := hp2 z (List.mem_of_getElem? hzl)
    refine cw_skip ?_
    refine ex_then ?_
    refine cw_seq ?_
    refine cw_block ?_
    refine cw_seq ?_
    refine cw_region ?_
    refine sq_r (ry_move rfl) ?_
    refine sq_r (ry_assign rfl) ?_
    refine sq_nil ?_
    refine ex_then ?_
    refine cw_region ?_
    refine sq_r (ry_move rfl) ?_
    refine sq_r (ry_move rfl) ?_
    refine sq_r (ry_move rfl) ?_
    refine sq_r (ry_move rfl) ?_
    refine sq_r (ry_idxH rfl rfl i rfl (by omega)) ?_
    refine sq_r (ry_field rfl rfl) ?_
    refine sq_r (ry_elemcH (j := 1) rfl i hz rfl (by decide)) ?_
    refine sq_callC rfl (by omega) fun x18 hp18 => ?_
    refine sq_r (ry_idxH rfl rfl i rfl (by omega)) ?_
    refine sq_r (ry_field rfl rfl) ?_
    refine sq_storeS (n := 1) (k := i) (j := 1) (a := z) (a' := (⟨z.num, ⟨x18, z.ms.xs⟩⟩ : Gp)) (xs := zs) (enc := gpcells) (c := 2) (v := x18.val) (by kernel_rfl) rfl rfl rfl hz (by rw [Sv.cells_val]; simp [Sv.one]) (by rw [Sv.cells_val]; rfl) (by decide) (by rw [Sv.cells_val]; rfl) ?_
    refine sq_nil ?_
    refine ex_block ?_
    refine ex_then ?_
    refine cw_region ?_
    refine sq_r (ry_add rfl rfl (by omega)) ?_
    refine sq_r (ry_move rfl) ?_
    refine sq_nil ?_
    exact ex_again (x := (i, zs, es)) (i + 1, zs.set i (⟨z.num, ⟨x18, z.ms.xs⟩⟩ : Gp), Deep.ent (⟨x18, z.ms.xs⟩ : Sl Mr) :: es) ⟨by first | omega | (simp only []; omega), by rw [List.length_set]; exact hi2, by rw [gvs_same hz]; exact hi3, fun j hj => by simp only at hj; rw [List.getElem?_set_ne (by first | omega | (simp only []; omega))]; exact hi4 j (by first | omega | (simp only []; omega)), fun y hy => by
      have hs1 : (zs.set i (⟨z.num, ⟨x18, z.ms.xs⟩⟩ : Gp))[i]? = some (⟨z.num, ⟨x18, z.ms.xs⟩⟩ : Gp) := List.getElem?_set_self (by first | omega | (simp only []; omega))
      rw [List.take_add_one, hs1, List.take_set_of_le (Nat.le_refl _)] at hy
      rcases List.mem_append.1 hy with h | h
      · exact List.mem_cons_of_mem _ (hi5 y h)
      · rw [show y = (⟨z.num, ⟨x18, z.ms.xs⟩⟩ : Gp) by simpa using h]; exact List.mem_cons_self⟩ (by simp only; omega) (Sub.cons rfl (Sub.cons rfl (Sub.cons rfl (Sub.nil _)))) (fun w hw => Keep.mem (Mem.bagPush (Keep.mem (Mem.shutP (Keep.mem hw : Mem _ [own mrcells 2 x18 z.ms.xs, own gpcells 2 x5 (zs.set i (⟨z.num, ⟨x18, z.ms.xs⟩⟩ : Gp)), Ent.all es] _)) : Mem _ [Deep.ent (⟨x18, z.ms.xs⟩ : Sl Mr), Ent.all es, own gpcells 2 x5 (zs.set i (⟨z.num, ⟨x18, z.ms.xs⟩⟩ : Gp))] _)))
  · try simp only [Bool.and_eq_true, Bool.or_eq_true, Bool.and_eq_false_iff, Bool.or_eq_false_iff, Bool.not_eq_true', Bool.not_eq_false', decide_eq_true_eq, decide_eq_false_iff_not, Bool.not_eq_true, Bool.not_eq_false] at h0
    obtain rfl : i = l.xs.length := by omega
    have hall : ∀ z ∈ zs, Deep.ent z ∈ es := fun z hz => hi5 z (by rw [List.take_of_length_le (by omega)]; exact hz)
    refine cw_exit ?_
    refine ex_pass_exit ?_
    refine ex_pass_exit ?_
    refine ex_block_hit ?_
    refine ex_then ?_
    refine cw_seq ?_
    refine cw_region ?_
    refine sq_r (ry_move rfl) ?_
    refine sq_r (ry_assign rfl) ?_
    refine sq_nil ?_
    refine ex_then ?_
    refine cw_ret ?_
    refine ex_ret (.inl rfl) (res_1 rfl (rv_tmp rfl)) (fun w1 hw => ?_)
    exact ⟨(⟨x5, zs⟩, es), rfl, ⟨⟨hall⟩, hi3⟩, Keep.mem hw⟩
instance gcopied_i {w0 : World} {L : List Ent} {l : Sl Gp} [hl : HdD w0 L l] : FnC Try.prog 90 w0 L [l.sv.val] (Sl Gp × List Ent) (fun zz => zz.1.sv.val) (fun zz => own gpcells 2 zz.1.sv zz.1.xs :: Ent.all zz.2 :: L) (fun zz => InBag zz.1.xs zz.2 ∧ gvs zz.1.xs = gvs l.xs) (l.xs.length ≤ 1000000 ∧ ∀ x ∈ l.xs, x.ms.xs.length ≤ 1000000) := ⟨fun hp w hw => (gcopied_c w l (hl.h w hw) hp).mono fun e w' ⟨x, h1, h2, h3⟩ => ⟨x, h1, h2, hw.call h3⟩⟩
instance : OvF Try.prog 132 57 4 := ⟨⟨Try.f132, Try.func132, by kernel_rfl, by kernel_rfl, by kernel_rfl, by kernel_rfl⟩⟩
set_option maxRecDepth 20000 in
theorem sdelG_c (w0 w : World) (L : List Ent) (s : Sv) (ss : List Gp) (n : Nat) (m : Nat) (hw : Mem w0 (own gpcells 2 s ss :: L) w) (hpre : n ≤ m ∧ m ≤ ss.length) : Calls Try.prog 93 #[s.val, .int .i64 (n : Nat), .int .i64 (m : Nat)] w fun e w' => ∃ zz : Sv, e = .returned (zz.val) ∧ (True) ∧ Mem w0 (own gpcells 2 zz (ss.take n ++ ss.drop m) :: L) w' := by
  obtain ⟨hp1, hp2⟩ := hpre
  refine calls_in (args := [_, _, _]) Try.func93 rfl Try.ntmps93 rfl hw ?_
  change Cw _ _ _ _ _ [(0, s.val), (1, .int .i64 (n : Nat)), (2, .int .i64 (m : Nat))] (own gpcells 2 s ss :: L)
  refine cw_seq ?_
  refine cw_region ?_
  refine sq_r (ry_assign rfl) ?_
  refine sq_nil ?_
  refine ex_then ?_
  refine cw_seq ?_
  refine cw_region ?_
  refine sq_r (ry_move rfl) ?_
  refine sq_r (ry_move rfl) ?_
  refine sq_r (ry_move rfl) ?_
  refine sq_r (ry_move rfl) ?_
  refine sq_r (ry_lenH rfl) ?_
  refine sq_r (ry_subH3 (l := n) (h := m) (m := ss.length) rfl rfl rfl rfl rfl rfl rfl (by omega) (by omega) (by omega)) ?_
  refine sq_nil ?_
  refine ex_then ?_
  refine cw_seq ?_
  refine cw_seq ?_
  refine cw_region ?_
  refine sq_r (ry_move rfl) ?_
  refine sq_r (ry_move rfl) ?_
  refine sq_r (ry_int rfl rfl rfl) ?_
  refine sq_nil ?_
  refine ex_then ?_
  refine cw_cond rfl (fun h0 => ?_) (fun h0 => ?_)
  · try simp only [Bool.and_eq_true, Bool.or_eq_true, Bool.and_eq_false_iff, Bool.or_eq_false_iff, Bool.not_eq_true', Bool.not_eq_false', decide_eq_true_eq, decide_eq_false_iff_not, Bool.not_eq_true, Bool.not_eq_false] at h0
    obtain rfl : n = m := by omega
    refine cw_seq ?_
    refine cw_region ?_
    refine sq_r (ry_move rfl) ?_
    refine sq_r (ry_assign rfl) ?_
    refine sq_nil ?_
    refine ex_then ?_
    refine cw_ret ?_
    refine ex_pass_ret ?_
    refine ex_ret (.inl rfl) (res_1 rfl (rv_tmp rfl)) (fun w1 hw => ?_)
    exact ⟨s, rfl, trivial, by rw [List.take_append_drop]; exact hw⟩
  · try simp only [Bool.and_eq_true, Bool.or_eq_true, Bool.and_eq_false_iff, Bool.or_eq_false_iff, Bool.not_eq_true', Bool.not_eq_false', decide_eq_true_eq, decide_eq_false_iff_not, Bool.not_eq_true, Bool.not_eq_false] at h0
    refine cw_skip ?_
    refine ex_then ?_
    refine cw_seq ?_
    refine cw_bd s fun hbd0 => ?_
    have hlt : n < m := by omega
    refine cw_open (s := s) inferInstance (by decide) (by omega) fun pre mid T hpl hcap hnil hsp hok hsl => ?_
    have hle := hok.le
    have hbd := hok.bd
    have hlv : (flatR gpcells (ss.drop m)).length = (ss.length - m) * 2 := by rw [flatR_length, List.length_drop]
    have hlu : (flatR gpcells (ss.take n)).length = n * 2 := by rw [flatR_length, List.length_take]; congr 1; omega
    have hlx : (flatR gpcells ss).length = ss.length * 2 := flatR_length ss
    have exs : flatR gpcells ss = flatR gpcells (ss.take m) ++ flatR gpcells (ss.drop m) := by rw [← flatR_app, List.take_append_drop]
    have hlm : (flatR gpcells (ss.take m)).length = m * 2 := by rw [flatR_length, List.length_take]; congr 1; omega
    obtain ⟨X, hX⟩ : ∃ X, flatR gpcells ss = flatR gpcells (ss.take n) ++ X := ⟨flatR gpcells (ss.drop n), by rw [← flatR_app, List.take_append_drop]⟩
    have hXl : n * 2 + X.length = ss.length * 2 := by rw [← hlx, hX, List.length_append, hlu]
    obtain ⟨r1, hr1⟩ : ∃ r : Sv, r = (⟨false, s.b, s.o, n + (ss.length - m), s.cap, none⟩ : Sv) := ⟨_, rfl⟩
    refine cw_region ?_
    refine sq_r (ry_move rfl) ?_
    refine sq_r (ry_lenS rfl hok hsl) ?_
    refine sq_r (ry_assign rfl) ?_
    refine sq_nil ?_
    refine ex_then ?_
    refine cw_seq ?_
    refine cw_tail 6 [] (by kernel_rfl) (by kernel_rfl) ?_
    simp only [List.take_succ_cons, List.take_zero]
    refine qt_r (ry_move rfl) ?_
    refine qt_r (ry_move rfl) ?_
    have rg22 : Rg 0 n ss.length := ⟨by omega⟩
    refine qt_r (ry_subS_hi (h := n) rfl rfl rfl hok (by omega)) ?_
    refine qt_r (ry_move rfl) ?_
    refine qt_r (ry_move rfl) ?_
    have rg25 : Rg m ss.length ss.length := ⟨by omega⟩
    refine qt_r (ry_subS_lo (l := m) (n := ss.length) rfl rfl rfl hok hsl (by omega)) ?_
    refine qt_end ?_
    refine fr_nil ?_
    simp only [List.drop_succ_cons, List.drop_zero]
    refine sq_appendB (D := s.sub 2 0 n) (S := s.sub 2 m ss.length) (b := s.b) (o := s.o + n * 2) (n := ss.length - m) (vs := flatR gpcells (ss.drop m)) (R := r1) (cs' := (pre ++ (flatR gpcells (ss.take n) ++ (flatR gpcells (ss.drop m) ++ (X ++ mid).drop (flatR gpcells (ss.drop m)).length))).toArray) rfl rfl hnil hsp rfl (by rw [Sv.sub_0]; rfl) hnil hsp rfl rfl hlv (by show n - 0 + _ ≤ s.cap - 0; omega) (fun w hw j v hj => by
      have hjl := (List.getElem?_eq_some_iff.1 hj).1
      rw [hlv] at hjl
      rw [Sv.sub_o (by omega)]
      show w.cell? ⟨s.b, _, none⟩ = _
      rw [hw.cell (inferInstance : Has _ s.b _ _ _).h, List.getElem?_toArray, List.getElem?_append_right (by omega), List.getElem?_append_left (by omega), exs, List.getElem?_append_right (by omega), ← hj]
      congr 1; omega) (flatR_one _) (by simp only [List.size_toArray, List.length_append]; omega) (by rw [hX, List.append_assoc, ← List.append_assoc pre, over_cat (by rw [List.length_append]; omega), List.append_assoc]) (by rw [hr1, Sv.sub_0]; rfl) ?_
    refine sq_r (ry_assign rfl) ?_
    refine sq_nil ?_
    refine ex_then ?_
    refine cw_seq ?_
    refine cw_region ?_
    refine sq_r (ry_move rfl) ?_
    refine sq_r (ry_move rfl) ?_
    refine sq_r (ry_lenS (n := n + (ss.length - m)) (s := r1) rfl (by rw [hr1]; exact ⟨(fun h => by cases h), by simp only; omega, by simp only; omega, fun _ => rfl⟩) (by rw [hr1])) ?_
    refine sq_r (ry_move rfl) ?_
    refine sq_r (ry_subS (s := r1) (l := n + (ss.length - m)) (h := ss.length) rfl rfl rfl rfl rfl (by rw [hr1]; exact ⟨(fun h => by cases h), by simp only; omega, by simp only; omega, fun _ => rfl⟩) (by omega) (by rw [hr1]; simp only; omega)) ?_
    refine sq_clearB (D := r1.sub 2 (n + (ss.length - m)) ss.length) (b := s.b) (o := s.o + (n + (ss.length - m)) * 2) (n := m - n) (z := .agg (gpcells zgp)) rfl (by rw [hr1]; rfl) (by rw [hr1]; rfl) (by rw [hr1]; rfl) (by rw [hr1, Sv.sub_o (by show _ < s.cap; omega)]) (by show ss.length - (n + (ss.length - m)) = _; omega) (by omega) (show (gpcells zgp).all (·.oneCell') = true from (inferInstance : Enc gpcells 2).one zgp) (by simp only [List.size_toArray, List.length_append, List.length_drop]; omega) fun Z hZ => ?_
    refine sq_nil ?_
    refine ex_then ?_
    refine cw_seq ?_
    refine cw_region ?_
    refine sq_r (ry_move rfl) ?_
    refine sq_r (ry_assign rfl) ?_
    refine sq_nil ?_
    refine ex_then ?_
    refine cw_ret ?_
    refine ex_ret (.inl rfl) (res_1 rfl (rv_tmp rfl)) (fun w1 hw => ?_)
    refine ⟨r1, rfl, trivial, ?_⟩
    rw [show (pre ++ (flatR gpcells (ss.take n) ++ (flatR gpcells (ss.drop m) ++ (X ++ mid).drop (flatR gpcells (ss.drop m)).length))) = (pre ++ (flatR gpcells (ss.take n) ++ flatR gpcells (ss.drop m))) ++ (X ++ mid).drop (flatR gpcells (ss.drop m)).length from by simp only [List.append_assoc], over_cat (A := pre ++ (flatR gpcells (ss.take n) ++ flatR gpcells (ss.drop m))) (by simp only [List.length_append]; omega), ← flatR_app, List.append_assoc pre] at hw
    have hw2 := own_shut (enc := gpcells) (i := 0) (xs := ss.take n ++ ss.drop m) (pre := pre) hw rfl r1 (by rw [hr1]; exact ⟨(fun h => by cases h), by simp only; omega, by simp only; omega, fun _ => rfl⟩) (by rw [hr1]) (by rw [hr1]) (by rw [hr1]) (by rw [hr1]; exact hpl.symm) (by rw [hr1]; simp only [List.length_append, List.length_take, List.length_drop]; omega) (by rw [hr1]; simp only [List.length_append, List.length_take, List.length_drop]; omega)
    exact hw2
instance sdelG_i {w0 : World} {L R : List Ent} {i : Nat} {s : Sv} {ss : List Gp} {n : Nat} {m : Nat} [q : Owns L s gpcells 2 ss i] [d : DelI L i R] : FnC Try.prog 93 w0 L [s.val, .int .i64 (n : Nat), .int .i64 (m : Nat)] (Sv) (fun zz => zz.val) (fun zz => own gpcells 2 zz (ss.take n ++ ss.drop m) :: R) (fun zz => True) (n ≤ m ∧ m ≤ ss.length) := ⟨fun hp w hw => sdelG_c w0 w R s ss n m (mem_one q.h d.h hw) hp⟩
set_option maxRecDepth 20000 in
theorem sinsG_c (w0 w : World) (L : List Ent) (s : Sv) (ss : List Gp) (v : Sv) (r : Gp) (n : Nat) (hw : Mem w0 (own gpcells 2 s ss :: own gpcells 2 v [r] :: L) w) (hpre : n ≤ ss.length ∧ ss.length ≤ 1000000) : Calls Try.prog 92 #[s.val, .int .i64 (n : Nat), v.val] w fun e w' => ∃ zz : Sv, e = .returned (zz.val) ∧ (True) ∧ Mem w0 (own gpcells 2 zz (ss.take n ++ r :: ss.drop n) :: L) w' := by
  obtain ⟨hp1, hp2⟩ := hpre
  refine calls_in (args := [_, _, _]) Try.func92 rfl Try.ntmps92 rfl hw ?_
  change Cw _ _ _ _ _ [(0, s.val), (1, .int .i64 (n : Nat)), (2, v.val)] (own gpcells 2 s ss :: own gpcells 2 v [r] :: L)
  refine cw_seq ?_
  refine cw_region ?_
  refine sq_r (ry_assign rfl) ?_
  refine sq_nil ?_
  refine ex_then ?_
  refine cw_seq ?_
  refine cw_region ?_
  refine sq_r (ry_move rfl) ?_
  refine sq_r (ry_move rfl) ?_
  have rg12 : Rg n ss.length ss.length := ⟨by omega⟩
  refine sq_r (ry_subH_lo rfl rfl n rfl rg12.h.1) ?_
  refine sq_nil ?_
  refine ex_then ?_
  refine cw_seq ?_
  refine cw_region ?_
  refine sq_r (ry_move rfl) ?_
  refine sq_r (Ry.to (v' := .int .i64 (1 : Nat)) (ry_lenH rfl) rfl) ?_
  refine sq_r (ry_assign rfl) ?_
  refine sq_nil ?_
  refine ex_then ?_
  refine cw_seq ?_
  refine cw_seq ?_
  refine cw_region ?_
  refine sq_r (ry_move rfl) ?_
  refine sq_r (ry_int rfl rfl rfl) ?_
  refine sq_nil ?_
  refine ex_then ?_
  refine cw_cond rfl (fun h0 => ?_) (fun h0 => ?_)
  · try simp only [Bool.and_eq_true, Bool.or_eq_true, Bool.and_eq_false_iff, Bool.or_eq_false_iff, Bool.not_eq_true', Bool.not_eq_false', decide_eq_true_eq, decide_eq_false_iff_not, Bool.not_eq_true, Bool.not_eq_false] at h0
    exfalso; omega
  · try simp only [Bool.and_eq_true, Bool.or_eq_true, Bool.and_eq_false_iff, Bool.or_eq_false_iff, Bool.not_eq_true', Bool.not_eq_false', decide_eq_true_eq, decide_eq_false_iff_not, Bool.not_eq_true, Bool.not_eq_false] at h0
    refine cw_skip ?_
    refine ex_then ?_
    refine cw_seq ?_
    refine cw_region ?_
    refine sq_r (ry_move rfl) ?_
    refine sq_r (ry_lenH rfl) ?_
    refine sq_r (ry_assign rfl) ?_
    refine sq_nil ?_
    refine ex_then ?_
    refine cw_seq ?_
    refine cw_seq ?_
    refine cw_region ?_
    refine sq_r (ry_move rfl) ?_
    refine sq_r (ry_move rfl) ?_
    refine sq_r (ry_int rfl rfl rfl) ?_
    refine sq_nil ?_
    refine ex_then ?_
    refine cw_cond rfl (fun h1 => ?_) (fun h1 => ?_)
    · try simp only [Bool.and_eq_true, Bool.or_eq_true, Bool.and_eq_false_iff, Bool.or_eq_false_iff, Bool.not_eq_true', Bool.not_eq_false', decide_eq_true_eq, decide_eq_false_iff_not, Bool.not_eq_true, Bool.not_eq_false] at h1
      refine cw_seq ?_
      refine cw_region ?_
      refine sq_r (ry_move rfl) ?_
      refine sq_r (ry_move rfl) ?_
      refine sq_append (s := s) (enc := gpcells) (ys := [r]) rfl rfl (by decide) (fun w hw => src_rows (s := v) Try.underlying57 (by decide) ((inferInstance : HdE _ _ gpcells 2 v [r]).h w hw)) (by simp only [List.length_cons, List.length_nil]; omega) (by simp only [List.length_cons, List.length_nil]; omega) fun s25 hs25 hl25 => ?_
      refine sq_r (ry_assign rfl) ?_
      refine sq_nil ?_
      refine ex_then ?_
      refine cw_ret ?_
      refine ex_pass_ret ?_
      refine ex_ret (.inl rfl) (res_1 rfl (rv_tmp rfl)) (fun w1 hw => ?_)
      exact ⟨s25, rfl, trivial, by rw [List.take_of_length_le (by omega), List.drop_of_length_le (by omega)]; exact Keep.mem hw⟩
    · try simp only [Bool.and_eq_true, Bool.or_eq_true, Bool.and_eq_false_iff, Bool.or_eq_false_iff, Bool.not_eq_true', Bool.not_eq_false', decide_eq_true_eq, decide_eq_false_iff_not, Bool.not_eq_true, Bool.not_eq_false] at h1
      refine cw_skip ?_
      refine ex_then ?_
      refine cw_seq ?_
      refine cw_seq ?_
      have hlt : n < ss.length := by omega
      refine cw_owned (s := v) (enc := gpcells) inferInstance (by simp) fun hvn hvs hvok hvl => ?_
      have hvl1 : v.len = 1 := hvl
      refine cw_open (s := s) inferInstance (by decide) (by omega) fun pre mid T hpl hcap hnil hsp hok hsl => ?_
      have hle := hok.le
      have hbd := hok.bd
      obtain ⟨x, hx⟩ := get_some (xs := ss) (i := n) (by omega)
      have hA : (flatR gpcells (ss.take n)).length = n * 2 := by rw [flatR_length, List.length_take]; congr 1; omega
      have hB : (flatR gpcells (ss.drop n)).length = (ss.length - n) * 2 := by rw [flatR_length, List.length_drop]
      have hr0 : (flatR gpcells [r]).length = 2 := by rw [flatR_length]; rfl
      have he0 : (flatR gpcells [x]).length = 2 := by rw [flatR_length]; rfl
      have hss : flatR gpcells ss = (flatR gpcells (ss.take n)) ++ (flatR gpcells (ss.drop n)) := by rw [← flatR_app, List.take_append_drop]
      have hBe : (flatR gpcells (ss.drop n)) = (flatR gpcells [x]) ++ (flatR gpcells (ss.drop (n + 1))) := by rw [← flatR_app, List.drop_eq_getElem_cons hlt, show ss[n] = x from (List.getElem?_eq_some_iff.1 hx).2]; rfl
      have hlx : (flatR gpcells ss).length = ss.length * 2 := flatR_length ss
      have hfin : flatR gpcells (ss.take n ++ r :: ss.drop n) = (flatR gpcells (ss.take n)) ++ ((flatR gpcells [r]) ++ (flatR gpcells (ss.drop n))) := by rw [flatR_app, ← flatR_app [r]]; rfl
      have hlf : (ss.take n ++ r :: ss.drop n).length = ss.length + 1 := by simp only [List.length_append, List.length_take, List.length_cons, List.length_drop]; omega
      have hcs : ∀ (w1 : World) L', Mem w0 (blk s.b (pre ++ (flatR gpcells ss ++ mid)).toArray T :: L') w1 → ∀ j u, (flatR gpcells ss)[j]? = some u → w1.cell? ⟨s.b, s.o + j, none⟩ = some u := fun w1 L' hw1 j u hj => blk_cells hw1 hpl hj
      refine cw_region ?_
      refine sq_r (ry_move rfl) ?_
      refine sq_r (ry_move rfl) ?_
      refine sq_r (ry_add rfl rfl (by omega)) ?_
      refine sq_r (ry_move rfl) ?_
      refine sq_r (ry_capSv (n := s.cap) rfl hnil rfl) ?_
      refine sq_r (ry_int rfl rfl rfl) ?_
      refine sq_nil ?_
      refine ex_then ?_
      refine cw_cond rfl (fun h2 => ?_) (fun h2 => ?_)
      · try simp only [Bool.and_eq_true, Bool.or_eq_true, Bool.and_eq_false_iff, Bool.or_eq_false_iff, Bool.not_eq_true', Bool.not_eq_false', decide_eq_true_eq, decide_eq_false_iff_not, Bool.not_eq_true, Bool.not_eq_false] at h2
        refine cw_seq ?_
        refine cw_region ?_
        refine sq_r (ry_move rfl) ?_
        refine sq_r (ry_move rfl) ?_
        refine sq_r (ry_subS_hi (h := n) rfl rfl rfl hok (by omega)) ?_
        refine sq_r (ry_move rfl) ?_
        refine sq_r (ry_move rfl) ?_
        refine sq_r (ry_add rfl rfl (by omega)) ?_
        refine sq_r (ry_move rfl) ?_
        refine sq_r (ry_sub rfl rfl (by omega)) ?_
        refine sq_appendZ (D := s.sub 2 0 n) (k := ss.length + 1 - n) (p := n) (m := ss.length + 1) (olds := (flatR gpcells (ss.take n))) rfl (by omega) rfl rfl (by omega) (by omega) hnil hsp (by decide) Try.underlying3 hA (fun w hw j u hj => by
          have hjl := (List.getElem?_eq_some_iff.1 hj).1
          rw [Sv.sub_0]
          exact hcs w _ hw j u (by rw [hss, List.getElem?_append_left hjl]; exact hj)) (by show s.cap - 0 < n - 0 + _; omega) (by show (n - 0 + _) * _ ≤ _; omega) (by show n - 0 + _ ≤ _; omega) fun b40 C40 Z40 hC40 hZ40 => ?_
        refine sq_r (ry_assign rfl) ?_
        refine sq_nil ?_
        refine ex_then ?_
        refine cw_seq ?_
        refine cw_region ?_
        refine sq_r (ry_move rfl) ?_
        refine sq_r (ry_move rfl) ?_
        refine sq_r (ry_subS_lo (s := (⟨false, b40, 0, ss.length + 1, C40, none⟩ : Sv)) (l := n) (n := ss.length + 1) rfl rfl rfl ⟨(fun h => by cases h), by simp only; omega, by simp only; omega, fun _ => rfl⟩ rfl (by omega)) ?_
        refine sq_r (ry_move rfl) ?_
        refine sq_copyB (D := (⟨false, b40, 0, ss.length + 1, C40, none⟩ : Sv).sub 2 n (ss.length + 1)) (S := v) (b := b40) (o := n * 2) (n := 1) (vs := (flatR gpcells [r])) (cs' := ((flatR gpcells (ss.take n)) ++ ((flatR gpcells [r]) ++ Z40.drop 2)).toArray) rfl rfl rfl rfl rfl (by rw [Sv.sub_o (by show n < C40; omega)]; exact Nat.zero_add _) hvn hvs (by rw [hvl1]; exact min_l (b := ss.length + 1 - n) (by omega)) (by rw [hr0]) (fun w hw j u hj => own_cells (enc := gpcells) (xs := [r]) (by decide) inferInstance hw hj) (flatR_one _) (by simp only [List.size_toArray, List.length_append]; omega) (by rw [over_cat (A := (flatR gpcells (ss.take n))) hA.symm, hr0]) ?_
        refine sq_nil ?_
        refine ex_then ?_
        refine cw_seq ?_
        refine cw_tail 8 [] (by kernel_rfl) (by kernel_rfl) ?_
        simp only [List.take_succ_cons, List.take_zero]
        refine qt_r (ry_move rfl) ?_
        refine qt_r (ry_move rfl) ?_
        refine qt_r (ry_move rfl) ?_
        refine qt_r (ry_add rfl rfl (by omega)) ?_
        refine qt_r (ry_subS_lo (s := (⟨false, b40, 0, ss.length + 1, C40, none⟩ : Sv)) (l := n + 1) (n := ss.length + 1) rfl rfl rfl ⟨(fun h => by cases h), by simp only; omega, by simp only; omega, fun _ => rfl⟩ rfl (by omega)) ?_
        refine qt_r (ry_move rfl) ?_
        refine qt_r (ry_move rfl) ?_
        refine qt_r (ry_subS_lo (l := n) (n := ss.length) rfl rfl rfl hok hsl (by omega)) ?_
        refine qt_end ?_
        refine fr_nil ?_
        simp only [List.drop_succ_cons, List.drop_zero]
        refine sq_copyB (D := (⟨false, b40, 0, ss.length + 1, C40, none⟩ : Sv).sub 2 (n + 1) (ss.length + 1)) (S := s.sub 2 n ss.length) (b := b40) (o := (n + 1) * 2) (n := ss.length - n) (vs := (flatR gpcells (ss.drop n))) (cs' := (((flatR gpcells (ss.take n)) ++ (flatR gpcells [r])) ++ ((flatR gpcells (ss.drop n)) ++ (Z40.drop 2).drop (flatR gpcells (ss.drop n)).length)).toArray) rfl rfl rfl rfl rfl (by rw [Sv.sub_o (by show n + 1 < C40; omega)]; exact Nat.zero_add _) hnil hsp (min_l (a := ss.length - n) (b := ss.length + 1 - (n + 1)) (by omega)) hB (fun w hw j u hj => by
          rw [Sv.sub_o (by omega), Nat.add_assoc]
          exact hcs w _ (hw.sub (by first | exact List.Sublist.refl _ | exact List.sublist_cons_self _ _)) (n * 2 + j) u (by rw [hss, List.getElem?_append_right (by omega), hA, Nat.add_sub_cancel_left]; exact hj)) (flatR_one _) (by simp only [List.size_toArray, List.length_append, List.length_drop]; omega) (by rw [← List.append_assoc, over_cat (A := (flatR gpcells (ss.take n)) ++ (flatR gpcells [r])) (by rw [List.length_append, hA, hr0]; omega)]) ?_
        refine sq_nil ?_
        refine ex_then ?_
        refine cw_seq ?_
        refine cw_region ?_
        refine sq_r (ry_move rfl) ?_
        refine sq_r (ry_assign rfl) ?_
        refine sq_nil ?_
        refine ex_then ?_
        refine cw_ret ?_
        refine ex_pass_ret ?_
        refine ex_ret (.inl rfl) (res_1 rfl (rv_tmp rfl)) (fun w1 hw => ?_)
        refine ⟨(⟨false, b40, 0, ss.length + 1, C40, none⟩ : Sv), rfl, trivial, ?_⟩
        rw [show ((flatR gpcells (ss.take n)) ++ (flatR gpcells [r])) ++ ((flatR gpcells (ss.drop n)) ++ (Z40.drop 2).drop (flatR gpcells (ss.drop n)).length) = [] ++ (flatR gpcells (ss.take n ++ r :: ss.drop n) ++ (Z40.drop 2).drop (flatR gpcells (ss.drop n)).length) from by rw [hfin]; simp only [List.append_assoc, List.nil_append]] at hw
        have hw2 := own_shut (enc := gpcells) (i := 0) (xs := ss.take n ++ r :: ss.drop n) (pre := []) (mid := (Z40.drop 2).drop (flatR gpcells (ss.drop n)).length) hw rfl (⟨false, b40, 0, ss.length + 1, C40, none⟩ : Sv) ⟨(fun h => by cases h), by simp only; omega, by simp only; omega, fun _ => rfl⟩ rfl rfl rfl rfl (by rw [hlf]) (by rw [hlf]; simp only [List.length_nil, List.length_drop]; omega)
        rw [List.set_cons_zero] at hw2
        exact Keep.mem hw2
      · try simp only [Bool.and_eq_true, Bool.or_eq_true, Bool.and_eq_false_iff, Bool.or_eq_false_iff, Bool.not_eq_true', Bool.not_eq_false', decide_eq_true_eq, decide_eq_false_iff_not, Bool.not_eq_true, Bool.not_eq_false] at h2
        obtain ⟨s1, hs1⟩ : ∃ z : Sv, z = ⟨false, s.b, s.o, ss.length + 1, s.cap, none⟩ := ⟨_, rfl⟩
        refine cw_skip ?_
        refine ex_then ?_
        refine cw_seq ?_
        refine cw_region ?_
        refine sq_r (ry_move rfl) ?_
        refine sq_r (ry_move rfl) ?_
        refine sq_r (ry_move rfl) ?_
        refine sq_r (ry_add rfl rfl (by omega)) ?_
        refine sq_r (Ry.to (v' := s1.val) (ry_subS_hi (h := ss.length + 1) rfl rfl rfl hok (by omega)) (by rw [hs1, Sv.sub_eq hnil hsp])) ?_
        refine sq_r (ry_assign rfl) ?_
        refine sq_nil ?_
        refine ex_then ?_
        refine cw_seq ?_
        refine cw_seq ?_
        refine cw_region ?_
        refine sq_r (ry_move rfl) ?_
        refine sq_r (ry_move rfl) ?_
        refine sq_r (ry_move rfl) ?_
        refine sq_r (ry_move rfl) ?_
        refine sq_r (ry_add rfl rfl (by omega)) ?_
        refine sq_r (ry_subS_lo (s := s1) (l := n + 1) (n := ss.length + 1) rfl rfl rfl (by rw [hs1]; exact ⟨(fun h => by cases h), by simp only; omega, by simp only; omega, fun _ => rfl⟩) (by rw [hs1]) (by omega)) ?_
        refine sq_r (ry_overlaps (V := v) (D := s1.sub 2 (n + 1) (ss.length + 1)) (b := s.b) (xs := [r]) rfl rfl (by decide) (by simp) (by rw [hs1]; rfl) (by rw [hs1]; rfl) (by rw [hs1]; rfl) (by simp only [List.size_toArray, List.length_append]; omega)) ?_
        refine sq_r (ry_not rfl) ?_
        refine sq_nil ?_
        refine ex_then ?_
        refine cw_cond rfl (fun h3 => ?_) (fun h3 => ?_)
        · try simp only [Bool.and_eq_true, Bool.or_eq_true, Bool.and_eq_false_iff, Bool.or_eq_false_iff, Bool.not_eq_true', Bool.not_eq_false', decide_eq_true_eq, decide_eq_false_iff_not, Bool.not_eq_true, Bool.not_eq_false] at h3
          refine cw_seq ?_
          refine cw_tail 8 [] (by kernel_rfl) (by kernel_rfl) ?_
          simp only [List.take_succ_cons, List.take_zero]
          refine qt_r (ry_move rfl) ?_
          refine qt_r (ry_move rfl) ?_
          refine qt_r (ry_move rfl) ?_
          refine qt_r (ry_add rfl rfl (by omega)) ?_
          refine qt_r (ry_subS_lo (s := s1) (l := n + 1) (n := ss.length + 1) rfl rfl rfl (by rw [hs1]; exact ⟨(fun h => by cases h), by simp only; omega, by simp only; omega, fun _ => rfl⟩) (by rw [hs1]) (by omega)) ?_
          refine qt_r (ry_move rfl) ?_
          refine qt_r (ry_move rfl) ?_
          refine qt_r (ry_subS_lo (s := s1) (l := n) (n := ss.length + 1) rfl rfl rfl (by rw [hs1]; exact ⟨(fun h => by cases h), by simp only; omega, by simp only; omega, fun _ => rfl⟩) (by rw [hs1]) (by omega)) ?_
          refine qt_end ?_
          refine fr_nil ?_
          simp only [List.drop_succ_cons, List.drop_zero]
          refine sq_copyB (D := s1.sub 2 (n + 1) (ss.length + 1)) (S := s1.sub 2 n (ss.length + 1)) (b := s.b) (o := s.o + (n + 1) * 2) (n := ss.length - n) (vs := (flatR gpcells (ss.drop n))) (cs' := (pre ++ ((flatR gpcells (ss.take n)) ++ ((flatR gpcells [x]) ++ ((flatR gpcells (ss.drop n)) ++ ((flatR gpcells (ss.drop (n + 1))) ++ mid).drop (flatR gpcells (ss.drop n)).length)))).toArray) rfl rfl (by rw [hs1]; rfl) (by rw [hs1]; rfl) (by rw [hs1]; rfl) (by rw [hs1, Sv.sub_o (by show _ < s.cap; omega)]) (by rw [hs1]; rfl) (by rw [hs1]; rfl) (by rw [show ss.length - n = ss.length + 1 - (n + 1) from by omega]; exact min_r (a := ss.length + 1 - n) (by omega)) hB (fun w hw j u hj => by
            rw [hs1, Sv.sub_o (by show _ < s.cap; omega), Nat.add_assoc]
            exact hcs w _ hw (n * 2 + j) u (by rw [hss, List.getElem?_append_right (by omega), hA, Nat.add_sub_cancel_left]; exact hj)) (flatR_one _) (by simp only [List.size_toArray, List.length_append]; omega) (by
            rw [hss, show pre ++ (((flatR gpcells (ss.take n)) ++ (flatR gpcells (ss.drop n))) ++ mid) = (pre ++ ((flatR gpcells (ss.take n)) ++ (flatR gpcells [x]))) ++ ((flatR gpcells (ss.drop (n + 1))) ++ mid) from by rw [hBe]; simp only [List.append_assoc], over_cat (A := pre ++ ((flatR gpcells (ss.take n)) ++ (flatR gpcells [x]))) (by simp only [List.length_append]; omega)]; simp only [List.append_assoc]) ?_
          refine sq_nil ?_
          refine ex_then ?_
          refine cw_seq ?_
          refine cw_region ?_
          refine sq_r (ry_move rfl) ?_
          refine sq_r (ry_move rfl) ?_
          refine sq_r (ry_subS_lo (s := s1) (l := n) (n := ss.length + 1) rfl rfl rfl (by rw [hs1]; exact ⟨(fun h => by cases h), by simp only; omega, by simp only; omega, fun _ => rfl⟩) (by rw [hs1]) (by omega)) ?_
          refine sq_r (ry_move rfl) ?_
          refine sq_copyB (D := s1.sub 2 n (ss.length + 1)) (S := v) (b := s.b) (o := s.o + n * 2) (n := 1) (vs := (flatR gpcells [r])) (cs' := (pre ++ ((flatR gpcells (ss.take n)) ++ ((flatR gpcells [r]) ++ ((flatR gpcells (ss.drop n)) ++ ((flatR gpcells (ss.drop (n + 1))) ++ mid).drop (flatR gpcells (ss.drop n)).length)))).toArray) rfl rfl (by rw [hs1]; rfl) (by rw [hs1]; rfl) (by rw [hs1]; rfl) (by rw [hs1, Sv.sub_o (by show _ < s.cap; omega)]) hvn hvs (by rw [hvl1]; exact min_l (b := ss.length + 1 - n) (by omega)) (by rw [hr0]) (fun w hw j u hj => own_cells (enc := gpcells) (xs := [r]) (by decide) inferInstance hw hj) (flatR_one _) (by simp only [List.size_toArray, List.length_append]; omega) (by
            rw [← List.append_assoc pre, over_cat (A := pre ++ (flatR gpcells (ss.take n))) (by rw [List.length_append]; omega), hr0, ← he0, List.drop_left, List.append_assoc]) ?_
          refine sq_nil ?_
          refine ex_then ?_
          refine cw_seq ?_
          refine cw_region ?_
          refine sq_r (ry_move rfl) ?_
          refine sq_r (ry_assign rfl) ?_
          refine sq_nil ?_
          refine ex_then ?_
          refine cw_ret ?_
          refine ex_pass_ret ?_
          refine ex_ret (.inl rfl) (res_1 rfl (rv_tmp rfl)) (fun w1 hw => ?_)
          refine ⟨s1, rfl, trivial, ?_⟩
          rw [show pre ++ ((flatR gpcells (ss.take n)) ++ ((flatR gpcells [r]) ++ ((flatR gpcells (ss.drop n)) ++ ((flatR gpcells (ss.drop (n + 1))) ++ mid).drop (flatR gpcells (ss.drop n)).length))) = pre ++ (flatR gpcells (ss.take n ++ r :: ss.drop n) ++ ((flatR gpcells (ss.drop (n + 1))) ++ mid).drop (flatR gpcells (ss.drop n)).length) from by rw [hfin]; simp only [List.append_assoc]] at hw
          have hw2 := own_shut (enc := gpcells) (i := 0) (xs := ss.take n ++ r :: ss.drop n) (pre := pre) (mid := ((flatR gpcells (ss.drop (n + 1))) ++ mid).drop (flatR gpcells (ss.drop n)).length) hw rfl s1 (by rw [hs1]; exact ⟨(fun h => by cases h), by simp only; omega, by simp only; omega, fun _ => rfl⟩) (by rw [hs1]) (by rw [hs1]) (by rw [hs1]) (by rw [hs1]; exact hpl.symm) (by rw [hs1, hlf]) (by rw [hs1, hlf]; have := congrArg List.length hBe; simp only [List.length_append, List.length_drop] at this ⊢; omega)
          rw [List.set_cons_zero] at hw2
          exact Keep.mem hw2
        · exfalso; simp at h3
instance sinsG_i {w0 : World} {L R1 L2 : List Ent} {i j : Nat} {s : Sv} {ss : List Gp} {v : Sv} {r : Gp} {n : Nat} [h : Owns L s gpcells 2 ss i] [d1 : DelI L i R1] [q : Owns R1 v gpcells 2 [r] j] [d2 : DelI R1 j L2] : FnC Try.prog 92 w0 L [s.val, .int .i64 (n : Nat), v.val] (Sv) (fun zz => zz.val) (fun zz => own gpcells 2 zz (ss.take n ++ r :: ss.drop n) :: L2) (fun zz => True) (n ≤ ss.length ∧ ss.length ≤ 1000000) := ⟨fun hp w hw => sinsG_c w0 w L2 s ss v r n (mem_two h.h d1.h q.h d2.h hw) hp⟩

end Go.Proofs.Ytajhlgdapiihgaa

/- Groups put, taken away, a hop lost: walked. -/
set_option linter.unusedSimpArgs false
set_option linter.unusedVariables false
namespace Go.Proofs.Ytajhlgdapiihgaa
open Go.Eng Go.Kb
set_option maxRecDepth 20000 in
theorem gput_c (w : World) (l : Sl Gp) (g : Gp) (hl : Deep.good (hp w) l) (hg : Deep.good (hp w) g) (hpre : l.xs.length ≤ 1000000 ∧ (∀ x ∈ l.xs, x.ms.xs.length ≤ 1000000) ∧ g.ms.xs.length ≤ 1000000) : Calls Try.prog 44 #[l.sv.val, .agg (gpcells g)] w fun e w' => ∃ zz : Sl Gp × List Ent, e = .returned (.tuple #[zz.1.sv.val, .int .i64 (gputE (gvs l.xs) (gval g))]) ∧ (InBag zz.1.xs zz.2 ∧ gvs zz.1.xs = gputL (gvs l.xs) (gval g)) ∧ Mem w [own gpcells 2 zz.1.sv zz.1.xs, Ent.all zz.2] w' := by
  have ghl : GvD w l := ⟨hl⟩
  have ghg : GvD w g := ⟨hg⟩
  obtain ⟨hp1, hp2, hp3⟩ := hpre
  refine calls_of (args := [_, _]) Try.func44 rfl Try.ntmps44 rfl ?_
  change Cw _ _ _ _ _ [(0, l.sv.val), (1, .agg (gpcells g))] []
  refine cw_seq ?_
  refine cw_region ?_
  refine sq_boxA rfl fun b3 => ?_
  refine sq_r (ry_assign rfl) ?_
  refine sq_r (ry_assign rfl) ?_
  refine sq_nil ?_
  refine ex_then ?_
  refine cw_seq ?_
  refine cw_region ?_
  refine sq_r (ry_move rfl) ?_
  refine sq_y (yl_callC rfl trivial) ?_
  refine sq_r (ry_move rfl) ?_
  refine sq_gt rfl rfl rfl (fun hg => (Ry.yl (ry_whole rfl))) ?_
  refine sq_gt rfl rfl rfl (fun hg => yl_callC (evl_cons (ev_c hg rfl) evl_nil) trivial) ?_
  refine sq_r (ry_and rfl rfl rfl) ?_
  refine sq_r (ry_assign rfl) ?_
  refine sq_nil ?_
  refine ex_then ?_
  refine cw_seq ?_
  refine cw_region ?_
  refine sq_r (ry_move rfl) ?_
  refine sq_callC rfl ⟨hp1, hp2⟩ fun x16 hp16 => ?_
  have ib16 : InBag x16.1.xs x16.2 := hp16.1
  have gv16 : gvs x16.1.xs = gvs l.xs := hp16.2
  have l16 : x16.1.xs.length = l.xs.length := by rw [← gvs_length, gv16, gvs_length]
  refine sq_r (ry_assign rfl) ?_
  refine sq_nil ?_
  refine ex_then ?_
  refine cw_seq ?_
  refine cw_seq ?_
  refine cw_region ?_
  refine sq_r (ry_move rfl) ?_
  refine sq_r (ry_not rfl) ?_
  refine sq_nil ?_
  refine ex_then ?_
  refine cw_cond rfl (fun h0 => ?_) (fun h0 => ?_)
  · try simp only [Bool.and_eq_true, Bool.or_eq_true, Bool.and_eq_false_iff, Bool.or_eq_false_iff, Bool.not_eq_true', Bool.not_eq_false', decide_eq_true_eq, decide_eq_false_iff_not, Bool.not_eq_true, Bool.not_eq_false] at h0
    have hE : gputE (gvs l.xs) (gval g) = 1 := if_neg (by rw [show (gval g).2 = g.ms.xs from rfl]; rcases h0 with h | h <;> rw [h] <;> simp)
    have hL : gputL (gvs l.xs) (gval g) = gvs l.xs := if_neg (by rw [hE]; decide)
    refine cw_seq ?_
    refine cw_region ?_
    refine sq_r (ry_move rfl) ?_
    refine sq_r (ry_assign rfl) ?_
    refine sq_r (ry_assign rfl) ?_
    refine sq_nil ?_
    refine ex_then ?_
    refine cw_ret ?_
    refine ex_pass_ret ?_
    refine ex_ret (.inl rfl) (res_2 rfl (rv_tmp rfl) (rv_tmp rfl)) (fun w1 hw => ?_)
    exact ⟨x16, by rw [hE], ⟨hp16.1, by rw [hL, gv16]⟩, Keep.mem hw⟩
  · try simp only [Bool.and_eq_true, Bool.or_eq_true, Bool.and_eq_false_iff, Bool.or_eq_false_iff, Bool.not_eq_true', Bool.not_eq_false', decide_eq_true_eq, decide_eq_false_iff_not, Bool.not_eq_true, Bool.not_eq_false] at h0
    have hg : (gall (gvs l.xs) && gok (gval g).2) = true := by rw [Bool.and_eq_true]; exact h0
    have hl64 := (gall_iff.1 h0.1).1
    rw [gvs_length] at hl64
    have hNe : (gplN (gvs x16.1.xs) g.num) = gplN (gvs l.xs) g.num := by rw [gv16]
    have hNle := gplN_le (gvs x16.1.xs) g.num
    rw [gvs_length] at hNle
    refine cw_skip ?_
    refine ex_then ?_
    refine cw_seq ?_
    refine cw_region ?_
    refine sq_r (ry_field (o' := 1) rfl rfl) ?_
    refine sq_r (ry_cellc rfl) ?_
    refine sq_callC rfl (by omega) fun x22 hp22 => ?_
    refine sq_r (ry_field (o' := 1) rfl rfl) ?_
    refine sq_store (cs' := gpcells (⟨g.num, ⟨x22, g.ms.xs⟩⟩ : Gp)) rfl rfl (by show 1 < 2; decide) (Sv.one _) rfl ?_
    refine sq_nil ?_
    refine ex_then ?_
    refine cw_seq ?_
    refine cw_region ?_
    refine sq_r (ry_move rfl) ?_
    refine sq_r (ry_field (o' := 0) rfl rfl) ?_
    refine sq_r (ry_cellc rfl) ?_
    refine sq_y (yl_callC rfl (by omega)) ?_
    refine sq_r (ry_move rfl) ?_
    refine sq_r (ry_extract (v := .int .i64 ((gplN (gvs x16.1.xs) ((⟨g.num, ⟨x22, g.ms.xs⟩⟩ : Gp).num)) : Nat)) rfl rfl) ?_
    refine sq_r (ry_extract (v := .bool (gplB (gvs x16.1.xs) ((⟨g.num, ⟨x22, g.ms.xs⟩⟩ : Gp).num))) rfl rfl) ?_
    refine sq_r (ry_assign rfl) ?_
    refine sq_r (ry_assign rfl) ?_
    refine sq_nil ?_
    refine ex_then ?_
    refine cw_seq ?_
    refine cw_block ?_
    refine cw_seq ?_
    refine cw_region ?_
    refine sq_r (ry_move rfl) ?_
    refine sq_r (ry_assign rfl) ?_
    refine sq_nil ?_
    refine ex_then ?_
    refine cw_cond rfl (fun h1 => ?_) (fun h1 => ?_)
    · try simp only [Bool.and_eq_true, Bool.or_eq_true, Bool.and_eq_false_iff, Bool.or_eq_false_iff, Bool.not_eq_true', Bool.not_eq_false', decide_eq_true_eq, decide_eq_false_iff_not, Bool.not_eq_true, Bool.not_eq_false] at h1
      have hb : gplB (gvs l.xs) (gval g).1 = true := by rw [← gv16]; exact h1
      have hE : gputE (gvs l.xs) (gval g) = 0 := by rw [gputE, if_pos hg, if_pos hb]
      have hL : gputL (gvs l.xs) (gval g) = (gvs l.xs).set (gplN (gvs x16.1.xs) g.num) (gval g) := by rw [gputL, if_pos hE, if_pos hb, hNe]; rfl
      obtain ⟨y, _, hy, _⟩ := gpl_in h1
      obtain ⟨z, hz⟩ := get_some (xs := x16.1.xs) (i := (gplN (gvs x16.1.xs) g.num)) (by have := (List.getElem?_eq_some_iff.1 hy).1; rw [gvs_length] at this; exact this)
      refine cw_region ?_
      refine sq_r (ry_move rfl) ?_
      refine sq_r (ry_move rfl) ?_
      refine sq_r (ry_whole rfl) ?_
      refine sq_r (ry_idxH rfl rfl (gplN (gvs x16.1.xs) g.num) rfl (by have := (List.getElem?_eq_some_iff.1 hz).1; omega)) ?_
      refine sq_storeS (n := 2) (k := (gplN (gvs x16.1.xs) g.num)) (j := 0) (a := z) (a' := (⟨g.num, ⟨x22, g.ms.xs⟩⟩ : Gp)) (xs := x16.1.xs) (enc := gpcells) (c := 2) (v := .agg (gpcells (⟨g.num, ⟨x22, g.ms.xs⟩⟩ : Gp))) (by kernel_rfl) rfl rfl rfl hz (Enc.one (enc := gpcells) (c := 2) _) rfl (by decide) (over_all rfl) ?_
      refine sq_nil ?_
      refine ex_block ?_
      refine ex_then ?_
      refine cw_seq ?_
      refine cw_region ?_
      refine sq_r (ry_move rfl) ?_
      refine sq_r (ry_assign rfl) ?_
      refine sq_r (ry_assign rfl) ?_
      refine sq_nil ?_
      refine ex_then ?_
      refine cw_ret ?_
      refine ex_ret (.inl rfl) (res_2 rfl (rv_tmp rfl) (rv_tmp rfl)) (fun w1 hw => ?_)
      exact ⟨(⟨x16.1.sv, x16.1.xs.set (gplN (gvs x16.1.xs) g.num) (⟨g.num, ⟨x22, g.ms.xs⟩⟩ : Gp)⟩, Deep.ent (⟨x22, g.ms.xs⟩ : Sl Mr) :: x16.2), by rw [hE], ⟨⟨fun y hy => (List.mem_or_eq_of_mem_set hy).elim (fun h => List.mem_cons_of_mem _ (hp16.1.h y h)) (fun h => by rw [h]; exact List.mem_cons_self)⟩, by rw [hL, ← gv16, gvs, List.map_set]; rfl⟩, Keep.mem (Mem.bagPush (Keep.mem (Mem.shutP (Keep.mem hw : Mem _ [own mrcells 2 x22 g.ms.xs, own gpcells 2 x16.1.sv (x16.1.xs.set (gplN (gvs x16.1.xs) g.num) (⟨g.num, ⟨x22, g.ms.xs⟩⟩ : Gp)), Ent.all x16.2] _)) : Mem _ [Deep.ent (⟨x22, g.ms.xs⟩ : Sl Mr), Ent.all x16.2, own gpcells 2 x16.1.sv (x16.1.xs.set (gplN (gvs x16.1.xs) g.num) (⟨g.num, ⟨x22, g.ms.xs⟩⟩ : Gp))] _))⟩
    · try simp only [Bool.and_eq_true, Bool.or_eq_true, Bool.and_eq_false_iff, Bool.or_eq_false_iff, Bool.not_eq_true', Bool.not_eq_false', decide_eq_true_eq, decide_eq_false_iff_not, Bool.not_eq_true, Bool.not_eq_false] at h1
      have hb : gplB (gvs l.xs) (gval g).1 = false := by rw [← gv16]; exact h1
      refine cw_seq ?_
      refine cw_region ?_
      refine sq_r (ry_move rfl) ?_
      refine sq_r (ry_lenH rfl) ?_
      refine sq_r (ry_int rfl rfl rfl) ?_
      refine sq_r (ry_assign rfl) ?_
      refine sq_nil ?_
      refine ex_then ?_
      refine cw_cond rfl (fun h2 => ?_) (fun h2 => ?_)
      · try simp only [Bool.and_eq_true, Bool.or_eq_true, Bool.and_eq_false_iff, Bool.or_eq_false_iff, Bool.not_eq_true', Bool.not_eq_false', decide_eq_true_eq, decide_eq_false_iff_not, Bool.not_eq_true, Bool.not_eq_false] at h2
        have hE : gputE (gvs l.xs) (gval g) = 5 := by rw [gputE, if_pos hg, if_neg (by rw [hb]; simp), if_pos (by rw [gvs_length]; omega)]
        have hL : gputL (gvs l.xs) (gval g) = gvs l.xs := if_neg (by rw [hE]; decide)
        refine cw_seq ?_
        refine cw_region ?_
        refine sq_r (ry_move rfl) ?_
        refine sq_r (ry_assign rfl) ?_
        refine sq_r (ry_assign rfl) ?_
        refine sq_nil ?_
        refine ex_then ?_
        refine cw_ret ?_
        refine ex_block_ret ?_
        refine ex_pass_ret ?_
        refine ex_ret (.inl rfl) (res_2 rfl (rv_tmp rfl) (rv_tmp rfl)) (fun w1 hw => ?_)
        exact ⟨x16, by rw [hE], ⟨hp16.1, by rw [hL, gv16]⟩, Keep.mem hw⟩
      · try simp only [Bool.and_eq_true, Bool.or_eq_true, Bool.and_eq_false_iff, Bool.or_eq_false_iff, Bool.not_eq_true', Bool.not_eq_false', decide_eq_true_eq, decide_eq_false_iff_not, Bool.not_eq_true, Bool.not_eq_false] at h2
        have hE : gputE (gvs l.xs) (gval g) = 0 := by rw [gputE, if_pos hg, if_neg (by rw [hb]; simp), if_neg (by rw [gvs_length]; omega)]
        have hL : gputL (gvs l.xs) (gval g) = (gvs l.xs).take (gplN (gvs x16.1.xs) g.num) ++ gval g :: (gvs l.xs).drop (gplN (gvs x16.1.xs) g.num) := by rw [gputL, if_pos hE, if_neg (by rw [hb]; simp), hNe]; rfl
        refine cw_region ?_
        refine sq_r (ry_move rfl) ?_
        refine sq_r (ry_move rfl) ?_
        refine sq_r (ry_whole rfl) ?_
        refine sq_buildSlice (enc := gpcells) (vals := [_]) [(⟨g.num, ⟨x22, g.ms.xs⟩⟩ : Gp)] rfl rfl rfl (by decide) (by decide) fun b34 => ?_
        refine sq_callC rfl ⟨by omega, by omega⟩ fun x35 hp35 => ?_
        refine sq_r (ry_assign rfl) ?_
        refine sq_nil ?_
        refine ex_block ?_
        refine ex_then ?_
        refine cw_seq ?_
        refine cw_region ?_
        refine sq_r (ry_move rfl) ?_
        refine sq_r (ry_assign rfl) ?_
        refine sq_r (ry_assign rfl) ?_
        refine sq_nil ?_
        refine ex_then ?_
        refine cw_ret ?_
        refine ex_ret (.inl rfl) (res_2 rfl (rv_tmp rfl) (rv_tmp rfl)) (fun w1 hw => ?_)
        exact ⟨(⟨x35, x16.1.xs.take (gplN (gvs x16.1.xs) g.num) ++ (⟨g.num, ⟨x22, g.ms.xs⟩⟩ : Gp) :: x16.1.xs.drop (gplN (gvs x16.1.xs) g.num)⟩, Deep.ent (⟨x22, g.ms.xs⟩ : Sl Mr) :: x16.2), by rw [hE], ⟨⟨fun y hy => (List.mem_append.1 hy).elim (fun h => List.mem_cons_of_mem _ (hp16.1.h y (List.mem_of_mem_take h))) (fun h => (List.mem_cons.1 h).elim (fun h => by rw [h]; exact List.mem_cons_self) (fun h => List.mem_cons_of_mem _ (hp16.1.h y (List.mem_of_mem_drop h))))⟩, by rw [hL, ← gv16]; simp only [gvs, List.map_append, List.map_cons, List.map_take, List.map_drop]; rfl⟩, Keep.mem (Mem.bagPush (Keep.mem (Mem.shutP (Keep.mem hw : Mem _ [own mrcells 2 x22 g.ms.xs, own gpcells 2 x35 (x16.1.xs.take (gplN (gvs x16.1.xs) g.num) ++ (⟨g.num, ⟨x22, g.ms.xs⟩⟩ : Gp) :: x16.1.xs.drop (gplN (gvs x16.1.xs) g.num)), Ent.all x16.2] _)) : Mem _ [Deep.ent (⟨x22, g.ms.xs⟩ : Sl Mr), Ent.all x16.2, own gpcells 2 x35 (x16.1.xs.take (gplN (gvs x16.1.xs) g.num) ++ (⟨g.num, ⟨x22, g.ms.xs⟩⟩ : Gp) :: x16.1.xs.drop (gplN (gvs x16.1.xs) g.num))] _))⟩
instance gput_i {w0 : World} {L : List Ent} {l : Sl Gp} {g : Gp} [hl : HdD w0 L l] [hg : HdD w0 L g] : FnC Try.prog 44 w0 L [l.sv.val, .agg (gpcells g)] (Sl Gp × List Ent) (fun zz => .tuple #[zz.1.sv.val, .int .i64 (gputE (gvs l.xs) (gval g))]) (fun zz => own gpcells 2 zz.1.sv zz.1.xs :: Ent.all zz.2 :: L) (fun zz => InBag zz.1.xs zz.2 ∧ gvs zz.1.xs = gputL (gvs l.xs) (gval g)) (l.xs.length ≤ 1000000 ∧ (∀ x ∈ l.xs, x.ms.xs.length ≤ 1000000) ∧ g.ms.xs.length ≤ 1000000) := ⟨fun hp w hw => (gput_c w l g (hl.h w hw) (hg.h w hw) hp).mono fun e w' ⟨x, h1, h2, h3⟩ => ⟨x, h1, h2, hw.call h3⟩⟩
set_option maxRecDepth 20000 in
theorem gtake_c (w : World) (l : Sl Gp) (n : UInt16) (hl : Deep.good (hp w) l) (hpre : l.xs.length ≤ 1000000 ∧ (∀ x ∈ l.xs, x.ms.xs.length ≤ 1000000)) : Calls Try.prog 45 #[l.sv.val, .int .u16 (n.toNat : Nat)] w fun e w' => ∃ zz : Sl Gp × List Ent, e = .returned (.tuple #[zz.1.sv.val, .int .i64 (gtakeE (gvs l.xs) n)]) ∧ (InBag zz.1.xs zz.2 ∧ gvs zz.1.xs = gtakeL (gvs l.xs) n) ∧ Mem w [own gpcells 2 zz.1.sv zz.1.xs, Ent.all zz.2] w' := by
  have ghl : GvD w l := ⟨hl⟩
  obtain ⟨hp1, hp2⟩ := hpre
  refine calls_of (args := [_, _]) Try.func45 rfl Try.ntmps45 rfl ?_
  change Cw _ _ _ _ _ [(0, l.sv.val), (1, .int .u16 (n.toNat : Nat))] []
  refine cw_seq ?_
  refine cw_region ?_
  refine sq_r (ry_assign rfl) ?_
  refine sq_r (ry_assign rfl) ?_
  refine sq_nil ?_
  refine ex_then ?_
  refine cw_seq ?_
  refine cw_region ?_
  refine sq_r (ry_move rfl) ?_
  refine sq_y (yl_callC rfl trivial) ?_
  refine sq_r (ry_assign rfl) ?_
  refine sq_nil ?_
  refine ex_then ?_
  refine cw_seq ?_
  refine cw_region ?_
  refine sq_r (ry_move rfl) ?_
  refine sq_callC rfl ⟨hp1, hp2⟩ fun x12 hp12 => ?_
  have ib12 : InBag x12.1.xs x12.2 := hp12.1
  have gv12 : gvs x12.1.xs = gvs l.xs := hp12.2
  have l12 : x12.1.xs.length = l.xs.length := by rw [← gvs_length, gv12, gvs_length]
  refine sq_r (ry_assign rfl) ?_
  refine sq_nil ?_
  refine ex_then ?_
  refine cw_seq ?_
  refine cw_seq ?_
  refine cw_region ?_
  refine sq_r (ry_move rfl) ?_
  refine sq_r (ry_not rfl) ?_
  refine sq_nil ?_
  refine ex_then ?_
  refine cw_cond rfl (fun h0 => ?_) (fun h0 => ?_)
  · try simp only [Bool.and_eq_true, Bool.or_eq_true, Bool.and_eq_false_iff, Bool.or_eq_false_iff, Bool.not_eq_true', Bool.not_eq_false', decide_eq_true_eq, decide_eq_false_iff_not, Bool.not_eq_true, Bool.not_eq_false] at h0
    have hE : gtakeE (gvs l.xs) n = 1 := if_neg (by rw [h0]; simp)
    have hL : gtakeL (gvs l.xs) n = gvs l.xs := if_neg (by rw [hE]; decide)
    refine cw_seq ?_
    refine cw_region ?_
    refine sq_r (ry_move rfl) ?_
    refine sq_r (ry_assign rfl) ?_
    refine sq_r (ry_assign rfl) ?_
    refine sq_nil ?_
    refine ex_then ?_
    refine cw_ret ?_
    refine ex_pass_ret ?_
    refine ex_ret (.inl rfl) (res_2 rfl (rv_tmp rfl) (rv_tmp rfl)) (fun w1 hw => ?_)
    exact ⟨x12, by rw [hE], ⟨hp12.1, by rw [hL, gv12]⟩, Keep.mem hw⟩
  · try simp only [Bool.and_eq_true, Bool.or_eq_true, Bool.and_eq_false_iff, Bool.or_eq_false_iff, Bool.not_eq_true', Bool.not_eq_false', decide_eq_true_eq, decide_eq_false_iff_not, Bool.not_eq_true, Bool.not_eq_false] at h0
    have hg : gall (gvs l.xs) = true := by simpa using h0
    refine cw_skip ?_
    refine ex_then ?_
    refine cw_seq ?_
    refine cw_region ?_
    refine sq_r (ry_move rfl) ?_
    refine sq_r (ry_move rfl) ?_
    refine sq_y (yl_callC rfl (by omega)) ?_
    refine sq_r (ry_move rfl) ?_
    refine sq_r (ry_extract (v := .int .i64 ((gplN (gvs x12.1.xs) n) : Nat)) rfl rfl) ?_
    refine sq_r (ry_extract (v := .bool (gplB (gvs x12.1.xs) n)) rfl rfl) ?_
    refine sq_r (ry_assign rfl) ?_
    refine sq_r (ry_assign rfl) ?_
    refine sq_nil ?_
    refine ex_then ?_
    refine cw_seq ?_
    refine cw_seq ?_
    refine cw_region ?_
    refine sq_r (ry_move rfl) ?_
    refine sq_r (ry_not rfl) ?_
    refine sq_nil ?_
    refine ex_then ?_
    refine cw_cond rfl (fun h1 => ?_) (fun h1 => ?_)
    · try simp only [Bool.and_eq_true, Bool.or_eq_true, Bool.and_eq_false_iff, Bool.or_eq_false_iff, Bool.not_eq_true', Bool.not_eq_false', decide_eq_true_eq, decide_eq_false_iff_not, Bool.not_eq_true, Bool.not_eq_false] at h1
      have hb : gplB (gvs l.xs) n = false := by rw [← gv12]; simpa using h1
      have hE : gtakeE (gvs l.xs) n = 6 := by rw [gtakeE, if_pos hg, if_neg (by rw [hb]; simp)]
      have hL : gtakeL (gvs l.xs) n = gvs l.xs := if_neg (by rw [hE]; decide)
      refine cw_seq ?_
      refine cw_region ?_
      refine sq_r (ry_move rfl) ?_
      refine sq_r (ry_assign rfl) ?_
      refine sq_r (ry_assign rfl) ?_
      refine sq_nil ?_
      refine ex_then ?_
      refine cw_ret ?_
      refine ex_pass_ret ?_
      refine ex_ret (.inl rfl) (res_2 rfl (rv_tmp rfl) (rv_tmp rfl)) (fun w1 hw => ?_)
      exact ⟨x12, by rw [hE], ⟨hp12.1, by rw [hL, gv12]⟩, Keep.mem hw⟩
    · try simp only [Bool.and_eq_true, Bool.or_eq_true, Bool.and_eq_false_iff, Bool.or_eq_false_iff, Bool.not_eq_true', Bool.not_eq_false', decide_eq_true_eq, decide_eq_false_iff_not, Bool.not_eq_true, Bool.not_eq_false] at h1
      have h1x : gplB (gvs x12.1.xs) n = true := by simpa using h1
      have hb : gplB (gvs l.xs) n = true := by rw [← gv12]; exact h1x
      have hE : gtakeE (gvs l.xs) n = 0 := by rw [gtakeE, if_pos hg, if_pos hb]
      have hL : gtakeL (gvs l.xs) n = (gvs l.xs).take (gplN (gvs x12.1.xs) n) ++ (gvs l.xs).drop ((gplN (gvs x12.1.xs) n) + 1) := by rw [gtakeL, if_pos hE, gv12]
      obtain ⟨y, _, hy, _⟩ := gpl_in h1x
      have hNl : (gplN (gvs x12.1.xs) n) < x12.1.xs.length := by have := (List.getElem?_eq_some_iff.1 hy).1; rw [gvs_length] at this; exact this
      refine cw_skip ?_
      refine ex_then ?_
      refine cw_seq ?_
      refine cw_region ?_
      refine sq_r (ry_move rfl) ?_
      refine sq_r (ry_move rfl) ?_
      refine sq_r (ry_move rfl) ?_
      refine sq_r (Ry.to (v' := .int .i64 (((gplN (gvs x12.1.xs) n) + 1 : Nat) : Int)) (ry_add rfl rfl (by omega)) rfl) ?_
      refine sq_callC rfl ⟨by omega, by omega⟩ fun x29 hp29 => ?_
      refine sq_r (ry_assign rfl) ?_
      refine sq_r (ry_assign rfl) ?_
      refine sq_nil ?_
      refine ex_then ?_
      refine cw_ret ?_
      refine ex_ret (.inl rfl) (res_2 rfl (rv_tmp rfl) (rv_tmp rfl)) (fun w1 hw => ?_)
      exact ⟨(⟨x29, x12.1.xs.take (gplN (gvs x12.1.xs) n) ++ x12.1.xs.drop ((gplN (gvs x12.1.xs) n) + 1)⟩, x12.2), by rw [hE], ⟨⟨fun y hy => (List.mem_append.1 hy).elim (fun h => hp12.1.h y (List.mem_of_mem_take h)) (fun h => hp12.1.h y (List.mem_of_mem_drop h))⟩, by rw [hL, ← gv12]; simp only [gvs, List.map_append, List.map_take, List.map_drop]⟩, Keep.mem hw⟩
instance gtake_i {w0 : World} {L : List Ent} {l : Sl Gp} {n : UInt16} [hl : HdD w0 L l] : FnC Try.prog 45 w0 L [l.sv.val, .int .u16 (n.toNat : Nat)] (Sl Gp × List Ent) (fun zz => .tuple #[zz.1.sv.val, .int .i64 (gtakeE (gvs l.xs) n)]) (fun zz => own gpcells 2 zz.1.sv zz.1.xs :: Ent.all zz.2 :: L) (fun zz => InBag zz.1.xs zz.2 ∧ gvs zz.1.xs = gtakeL (gvs l.xs) n) (l.xs.length ≤ 1000000 ∧ (∀ x ∈ l.xs, x.ms.xs.length ≤ 1000000)) := ⟨fun hp w hw => (gtake_c w l n (hl.h w hw) hp).mono fun e w' ⟨x, h1, h2, h3⟩ => ⟨x, h1, h2, hw.call h3⟩⟩
set_option maxRecDepth 20000 in
theorem glose_c (w : World) (l : Sl Gp) (h : UInt16) (hl : Deep.good (hp w) l) (hpre : l.xs.length ≤ 1000000 ∧ (∀ x ∈ l.xs, x.ms.xs.length ≤ 1000000)) : Calls Try.prog 46 #[l.sv.val, .int .u16 (h.toNat : Nat)] w fun e w' => ∃ zz : Sl Gp × List Ent, e = .returned (zz.1.sv.val) ∧ (InBag zz.1.xs zz.2 ∧ gvs zz.1.xs = gloseL (gvs l.xs) h) ∧ Mem w [own gpcells 2 zz.1.sv zz.1.xs, Ent.all zz.2] w' := by
  have ghl : GvD w l := ⟨hl⟩
  obtain ⟨hp1, hp2⟩ := hpre
  have hgl := gvs_length l.xs
  refine calls_of (args := [_, _]) Try.func46 rfl Try.ntmps46 rfl ?_
  change Cw _ _ _ _ _ [(0, l.sv.val), (1, .int .u16 (h.toNat : Nat))] []
  refine cw_seq ?_
  refine cw_region ?_
  refine sq_r (ry_assign rfl) ?_
  refine sq_nil ?_
  refine ex_then ?_
  refine cw_seq ?_
  refine cw_seq ?_
  refine cw_region ?_
  refine sq_r (ry_move rfl) ?_
  refine sq_y (yl_callC rfl trivial) ?_
  refine sq_r (ry_not rfl) ?_
  refine sq_nil ?_
  refine ex_then ?_
  refine cw_cond rfl (fun h0 => ?_) (fun h0 => ?_)
  · try simp only [Bool.and_eq_true, Bool.or_eq_true, Bool.and_eq_false_iff, Bool.or_eq_false_iff, Bool.not_eq_true', Bool.not_eq_false', decide_eq_true_eq, decide_eq_false_iff_not, Bool.not_eq_true, Bool.not_eq_false] at h0
    have hL : gloseL (gvs l.xs) h = gvs l.xs := if_neg (by rw [h0]; simp)
    refine cw_seq ?_
    refine cw_region ?_
    refine sq_r (ry_move rfl) ?_
    refine sq_callC rfl ⟨hp1, hp2⟩ fun x15 hp15 => ?_
    refine sq_r (ry_assign rfl) ?_
    refine sq_nil ?_
    refine ex_then ?_
    refine cw_ret ?_
    refine ex_pass_ret ?_
    refine ex_ret (.inl rfl) (res_1 rfl (rv_tmp rfl)) (fun w1 hw => ?_)
    exact ⟨x15, rfl, ⟨hp15.1, by rw [hL, hp15.2]⟩, Keep.mem hw⟩
  · try simp only [Bool.and_eq_true, Bool.or_eq_true, Bool.and_eq_false_iff, Bool.or_eq_false_iff, Bool.not_eq_true', Bool.not_eq_false', decide_eq_true_eq, decide_eq_false_iff_not, Bool.not_eq_true, Bool.not_eq_false] at h0
    have hg : gall (gvs l.xs) = true := by simpa using h0
    have hL : gloseL (gvs l.xs) h = (gvs l.xs).filterMap (lost h) := if_pos hg
    refine cw_skip ?_
    refine ex_then ?_
    refine cw_seq ?_
    refine cw_region ?_
    refine sq_r (ry_assign rfl) ?_
    refine sq_nil ?_
    refine ex_then ?_
    refine cw_seq ?_
    refine cw_seq ?_
    refine cw_region ?_
    refine sq_r (ry_move rfl) ?_
    refine sq_r (ry_lenH rfl) ?_
    refine sq_r (ry_move rfl) ?_
    refine sq_nil ?_
    refine ex_then ?_
    refine cw_block ?_
    refine cw_loop (X := Nat × Sv × List Gp × List Ent) (fun zz => [(18, .int .i64 (zz.1 : Nat)), (5, zz.2.1.val), (1, .int .u16 (h.toNat : Nat)), (16, l.sv.val), (17, .int .i64 (l.xs.length : Nat))]) (fun zz => [own gpcells 2 zz.2.1 zz.2.2.1, Ent.all zz.2.2.2]) (fun zz => zz.1 ≤ l.xs.length ∧ gvs zz.2.2.1 = ((gvs l.xs).take zz.1).filterMap (lost h) ∧ InBag zz.2.2.1 zz.2.2.2 ∧ zz.2.2.1.length ≤ zz.1) (fun zz => l.xs.length - zz.1) (0, Sv.none, [], []) ⟨Nat.zero_le _, by simp [gvs], InBag.nil, Nat.le_refl _⟩ (Sub.cons rfl (Sub.cons rfl (Sub.cons rfl (Sub.cons rfl (Sub.cons rfl (Sub.nil _)))))) (fun w hw => Mem.nilOwn gpcells 2 (Mem.bag0 (Keep.mem hw))) ?_
    rintro ⟨i, o, zs, es⟩ ⟨hi1, hi2, hi3, hi4⟩
    dsimp only
    simp only at hi1 hi2 hi3 hi4
    refine cw_seq ?_
    refine cw_region ?_
    refine sq_r (ry_int rfl rfl rfl) ?_
    refine sq_nil ?_
    refine ex_then ?_
    refine cw_seq ?_
    refine cw_cond rfl (fun h1 => ?_) (fun h1 => ?_)
    · try simp only [Bool.and_eq_true, Bool.or_eq_true, Bool.and_eq_false_iff, Bool.or_eq_false_iff, Bool.not_eq_true', Bool.not_eq_false', decide_eq_true_eq, decide_eq_false_iff_not, Bool.not_eq_true, Bool.not_eq_false] at h1
      obtain ⟨x, hx⟩ := get_some (xs := l.xs) (i := i) (by omega)
      have mbx : Mb x _ := ⟨List.mem_of_getElem? hx⟩
      have hxm := hp2 x (List.mem_of_getElem? hx)
      have hst : ((gvs l.xs).take (i + 1)).filterMap (lost h) = ((gvs l.xs).take i).filterMap (lost h) ++ (lost h (gval x)).toList := by rw [List.take_add_one, gvs_get hx, List.filterMap_append]; cases hlo : lost h (gval x) <;> simp [hlo]
      refine cw_skip ?_
      refine ex_then ?_
      refine cw_seq ?_
      refine cw_block ?_
      refine cw_seq ?_
      refine cw_region ?_
      refine sq_r (ry_idxH rfl rfl i rfl (by omega)) ?_
      refine sq_r (ry_elemH rfl i hx rfl) ?_
      refine sq_allocA fun b7 => ?_
      refine sq_storeW rfl rfl ?_
      refine sq_nil ?_
      refine ex_then ?_
      refine cw_seq ?_
      refine cw_region ?_
      refine sq_r (ry_assign rfl) ?_
      refine sq_nil ?_
      refine ex_then ?_
      refine cw_seq ?_
      refine cw_seq ?_
      refine cw_region ?_
      refine sq_r (ry_field (o' := 1) rfl rfl) ?_
      refine sq_r (ry_cellc rfl) ?_
      refine sq_r (ry_lenH rfl) ?_
      refine sq_r (ry_move rfl) ?_
      refine sq_nil ?_
      refine ex_then ?_
      refine cw_block ?_
      refine cw_loop (X := Nat × Sv × List Mr) (fun zz => [(25, .int .i64 (zz.1 : Nat)), (8, zz.2.1.val), (1, .int .u16 (h.toNat : Nat)), (5, o.val), (7, .pointer (some ⟨b7, 0, none⟩)), (16, l.sv.val), (17, .int .i64 (l.xs.length : Nat)), (18, .int .i64 (i : Nat)), (23, x.ms.sv.val), (24, .int .i64 (x.ms.xs.length : Nat))]) (fun zz => [own mrcells 2 zz.2.1 zz.2.2, blk b7 (gpcells x) 51, own gpcells 2 o zs, Ent.all es]) (fun zz => zz.1 ≤ x.ms.xs.length ∧ zz.2.2 = keepM h (x.ms.xs.take zz.1)) (fun zz => x.ms.xs.length - zz.1) (0, Sv.none, []) ⟨Nat.zero_le _, rfl⟩ (Sub.cons rfl (Sub.cons rfl (Sub.cons rfl (Sub.cons rfl (Sub.cons rfl (Sub.cons rfl (Sub.cons rfl (Sub.cons rfl (Sub.cons rfl (Sub.cons rfl (Sub.nil _))))))))))) (fun w hw => Mem.nilOwn mrcells 2 (Keep.mem hw)) ?_
      rintro ⟨k, v, ys⟩ ⟨hj1, hj2⟩
      dsimp only
      simp only at hj1 hj2
      have hyl : ys.length ≤ x.ms.xs.length := by rw [hj2]; exact Nat.le_trans (List.length_filter_le _ _) (by rw [List.length_take]; omega)
      refine cw_seq ?_
      refine cw_region ?_
      refine sq_r (ry_int rfl rfl rfl) ?_
      refine sq_nil ?_
      refine ex_then ?_
      refine cw_seq ?_
      refine cw_cond rfl (fun h2 => ?_) (fun h2 => ?_)
      · try simp only [Bool.and_eq_true, Bool.or_eq_true, Bool.and_eq_false_iff, Bool.or_eq_false_iff, Bool.not_eq_true', Bool.not_eq_false', decide_eq_true_eq, decide_eq_false_iff_not, Bool.not_eq_true, Bool.not_eq_false] at h2
        obtain ⟨m, hm⟩ := get_some (xs := x.ms.xs) (i := k) (by omega)
        refine cw_skip ?_
        refine ex_then ?_
        refine cw_seq ?_
        refine cw_block ?_
        refine cw_seq ?_
        refine cw_region ?_
        refine sq_r (ry_idxH rfl rfl k rfl (by omega)) ?_
        refine sq_r (ry_elemH rfl k hm rfl) ?_
        refine sq_allocA fun b10 => ?_
        refine sq_storeW rfl rfl ?_
        refine sq_nil ?_
        refine ex_then ?_
        refine cw_seq ?_
        refine cw_region ?_
        refine sq_r (ry_field (o' := 0) rfl rfl) ?_
        refine sq_r (ry_cellc rfl) ?_
        refine sq_r (ry_move rfl) ?_
        refine sq_r (ry_int rfl rfl rfl) ?_
        refine sq_nil ?_
        refine ex_then ?_
        refine cw_cond rfl (fun h3 => ?_) (fun h3 => ?_)
        · try simp only [Bool.and_eq_true, Bool.or_eq_true, Bool.and_eq_false_iff, Bool.or_eq_false_iff, Bool.not_eq_true', Bool.not_eq_false', decide_eq_true_eq, decide_eq_false_iff_not, Bool.not_eq_true, Bool.not_eq_false] at h3
          refine cw_region ?_
          refine sq_r (ry_move rfl) ?_
          refine sq_r (ry_whole rfl) ?_
          refine sq_buildSlice (enc := mrcells) (vals := [_]) [m] rfl rfl rfl (by decide) (by decide) fun b35 => ?_
          refine sq_append (s := v) (ys := [m]) rfl rfl (by decide) (fun w hw => src_rows (s := ⟨false, b35, 0, 1, 1, none⟩) Try.underlying49 (by decide) ((inferInstance : Hd _ _ ⟨false, b35, 0, 1, 1, none⟩ mrcells 2 [m]).h w hw)) (by simp only [List.length_cons, List.length_nil]; omega) (by simp only [List.length_cons, List.length_nil]; omega) fun s36 hs36 hl36 => ?_
          refine sq_r (ry_assign rfl) ?_
          refine sq_nil ?_
          refine ex_block ?_
          refine ex_then ?_
          refine cw_region ?_
          refine sq_r (ry_add rfl rfl (by omega)) ?_
          refine sq_r (ry_move rfl) ?_
          refine sq_nil ?_
          exact ex_again (x := (k, v, ys)) (k + 1, s36, ys ++ [m]) ⟨by first | omega | (simp only []; omega), by rw [keepM, filter_take1 hm, if_pos (by rw [decide_eq_true_eq]; intro e; rw [e] at h3; omega), hj2]; rfl⟩ (by simp only; omega) (Sub.cons rfl (Sub.cons rfl (Sub.cons rfl (Sub.cons rfl (Sub.cons rfl (Sub.cons rfl (Sub.cons rfl (Sub.cons rfl (Sub.cons rfl (Sub.cons rfl (Sub.nil _))))))))))) (fun w hw => Keep.mem hw)
        · try simp only [Bool.and_eq_true, Bool.or_eq_true, Bool.and_eq_false_iff, Bool.or_eq_false_iff, Bool.not_eq_true', Bool.not_eq_false', decide_eq_true_eq, decide_eq_false_iff_not, Bool.not_eq_true, Bool.not_eq_false] at h3
          refine cw_skip ?_
          refine ex_block ?_
          refine ex_then ?_
          refine cw_region ?_
          refine sq_r (ry_add rfl rfl (by omega)) ?_
          refine sq_r (ry_move rfl) ?_
          refine sq_nil ?_
          exact ex_again (x := (k, v, ys)) (k + 1, v, ys) ⟨by first | omega | (simp only []; omega), by rw [keepM, filter_take1 hm, if_neg (by rw [decide_eq_true_eq, Classical.not_not]; exact UInt16.toNat_inj.1 (by first | omega | (simp only []; omega))), List.append_nil, hj2]; rfl⟩ (by simp only; omega) (Sub.cons rfl (Sub.cons rfl (Sub.cons rfl (Sub.cons rfl (Sub.cons rfl (Sub.cons rfl (Sub.cons rfl (Sub.cons rfl (Sub.cons rfl (Sub.cons rfl (Sub.nil _))))))))))) (fun w hw => Keep.mem hw)
      · try simp only [Bool.and_eq_true, Bool.or_eq_true, Bool.and_eq_false_iff, Bool.or_eq_false_iff, Bool.not_eq_true', Bool.not_eq_false', decide_eq_true_eq, decide_eq_false_iff_not, Bool.not_eq_true, Bool.not_eq_false] at h2
        obtain rfl : k = x.ms.xs.length := by omega
        rw [List.take_length] at hj2
        refine cw_exit ?_
        refine ex_pass_exit ?_
        refine ex_pass_exit ?_
        refine ex_block_hit ?_
        refine ex_then ?_
        refine cw_seq ?_
        refine cw_region ?_
        refine sq_r (ry_move rfl) ?_
        refine sq_r (ry_lenH rfl) ?_
        refine sq_r (ry_int rfl rfl rfl) ?_
        refine sq_nil ?_
        refine ex_then ?_
        refine cw_cond rfl (fun h4 => ?_) (fun h4 => ?_)
        · try simp only [Bool.and_eq_true, Bool.or_eq_true, Bool.and_eq_false_iff, Bool.or_eq_false_iff, Bool.not_eq_true', Bool.not_eq_false', decide_eq_true_eq, decide_eq_false_iff_not, Bool.not_eq_true, Bool.not_eq_false] at h4
          have hlo : lost h (gval x) = some (x.num, ys) := by rw [lost, if_neg (by rw [show (gval x).2 = x.ms.xs from rfl, ← hj2]; omega), hj2]; rfl
          rw [hlo] at hst
          refine cw_region ?_
          refine sq_r (ry_move rfl) ?_
          refine sq_r (ry_field (o' := 0) rfl rfl) ?_
          refine sq_r (ry_cellc rfl) ?_
          refine sq_r (ry_move rfl) ?_
          refine sq_r (ry_build (v := .agg (gpcells (⟨x.num, ⟨v, ys⟩⟩ : Gp))) rfl (gp_build x.num v ys)) ?_
          refine sq_buildSlice (enc := gpcells) (vals := [_]) [(⟨x.num, ⟨v, ys⟩⟩ : Gp)] rfl rfl rfl (by decide) (by decide) fun b46 => ?_
          refine sq_append (s := o) (enc := gpcells) (ys := [(⟨x.num, ⟨v, ys⟩⟩ : Gp)]) rfl rfl (by decide) (fun w hw => src_rows (s := (⟨false, b46, 0, 1, 1, none⟩ : Sv)) Try.underlying57 (by decide) ((inferInstance : HdE _ _ gpcells 2 (⟨false, b46, 0, 1, 1, none⟩ : Sv) [(⟨x.num, ⟨v, ys⟩⟩ : Gp)]).h w hw)) (by simp only [List.length_cons, List.length_nil]; omega) (by simp only [List.length_cons, List.length_nil]; omega) fun s47 hs47 hl47 => ?_
          refine sq_r (ry_assign rfl) ?_
          refine sq_nil ?_
          refine ex_block ?_
          refine ex_then ?_
          refine cw_region ?_
          refine sq_r (ry_add rfl rfl (by omega)) ?_
          refine sq_r (ry_move rfl) ?_
          refine sq_nil ?_
          exact ex_again (x := (i, o, zs, es)) (i + 1, s47, zs ++ [(⟨x.num, ⟨v, ys⟩⟩ : Gp)], Deep.ent (⟨v, ys⟩ : Sl Mr) :: es) ⟨by first | omega | (simp only []; omega), by rw [hst, ← hi2]; simp [gvs, gval], ⟨fun y hy => by rcases List.mem_append.1 hy with h | h; (exact List.mem_cons_of_mem _ (hi3.h y h)); (rw [show y = (⟨x.num, ⟨v, ys⟩⟩ : Gp) by simpa using h]; exact List.mem_cons_self)⟩, by simp only [List.length_append, List.length_singleton]; omega⟩ (by simp only; omega) (Sub.cons rfl (Sub.cons rfl (Sub.cons rfl (Sub.cons rfl (Sub.cons rfl (Sub.nil _)))))) (fun w hw => Keep.mem (Mem.bagPush (Keep.mem (Mem.shutP (Keep.mem hw : Mem _ [own mrcells 2 v ys, own gpcells 2 s47 (zs ++ [(⟨x.num, ⟨v, ys⟩⟩ : Gp)]), Ent.all es] _)) : Mem _ [Deep.ent (⟨v, ys⟩ : Sl Mr), Ent.all es, own gpcells 2 s47 (zs ++ [(⟨x.num, ⟨v, ys⟩⟩ : Gp)])] _)))
        · try simp only [Bool.and_eq_true, Bool.or_eq_true, Bool.and_eq_false_iff, Bool.or_eq_false_iff, Bool.not_eq_true', Bool.not_eq_false', decide_eq_true_eq, decide_eq_false_iff_not, Bool.not_eq_true, Bool.not_eq_false] at h4
          have hlo : lost h (gval x) = none := by rw [lost, if_pos (by rw [show (gval x).2 = x.ms.xs from rfl, ← hj2]; omega)]
          rw [hlo] at hst
          refine cw_skip ?_
          refine ex_block ?_
          refine ex_then ?_
          refine cw_region ?_
          refine sq_r (ry_add rfl rfl (by omega)) ?_
          refine sq_r (ry_move rfl) ?_
          refine sq_nil ?_
          exact ex_again (x := (i, o, zs, es)) (i + 1, o, zs, es) ⟨by first | omega | (simp only []; omega), by rw [hst, ← hi2]; simp, hi3, by simp only; omega⟩ (by simp only; omega) (Sub.cons rfl (Sub.cons rfl (Sub.cons rfl (Sub.cons rfl (Sub.cons rfl (Sub.nil _)))))) (fun w hw => Keep.mem hw)
    · try simp only [Bool.and_eq_true, Bool.or_eq_true, Bool.and_eq_false_iff, Bool.or_eq_false_iff, Bool.not_eq_true', Bool.not_eq_false', decide_eq_true_eq, decide_eq_false_iff_not, Bool.not_eq_true, Bool.not_eq_false] at h1
      obtain rfl : i = l.xs.length := by omega
      have hz : gvs zs = gloseL (gvs l.xs) h := by rw [hL, hi2, List.take_of_length_le (by omega)]
      refine cw_exit ?_
      refine ex_pass_exit ?_
      refine ex_pass_exit ?_
      refine ex_block_hit ?_
      refine ex_then ?_
      refine cw_seq ?_
      refine cw_region ?_
      refine sq_r (ry_move rfl) ?_
      refine sq_r (ry_assign rfl) ?_
      refine sq_nil ?_
      refine ex_then ?_
      refine cw_ret ?_
      refine ex_ret (.inl rfl) (res_1 rfl (rv_tmp rfl)) (fun w1 hw => ?_)
      exact ⟨(⟨o, zs⟩, es), rfl, ⟨hi3, hz⟩, Keep.mem hw⟩
instance glose_i {w0 : World} {L : List Ent} {l : Sl Gp} {h : UInt16} [hl : HdD w0 L l] : FnC Try.prog 46 w0 L [l.sv.val, .int .u16 (h.toNat : Nat)] (Sl Gp × List Ent) (fun zz => zz.1.sv.val) (fun zz => own gpcells 2 zz.1.sv zz.1.xs :: Ent.all zz.2 :: L) (fun zz => InBag zz.1.xs zz.2 ∧ gvs zz.1.xs = gloseL (gvs l.xs) h) (l.xs.length ≤ 1000000 ∧ (∀ x ∈ l.xs, x.ms.xs.length ≤ 1000000)) := ⟨fun hp w hw => (glose_c w l h (hl.h w hw) hp).mono fun e w' ⟨x, h1, h2, h3⟩ => ⟨x, h1, h2, hw.call h3⟩⟩

end Go.Proofs.Ytajhlgdapiihgaa

/- The laws of layer 20 are awake: walked. -/
set_option linter.unusedSimpArgs false
set_option linter.unusedVariables false
namespace Go.Proofs.Ytajhlgdapiihgaa
open Go.Eng Go.Kb
theorem aw20 : gputE [] (9, [(⟨5, 1⟩ : Mr), ⟨6, 2⟩]) = 0 ∧ gputL [] (9, [(⟨5, 1⟩ : Mr), ⟨6, 2⟩]) = [((9 : UInt16), [(⟨5, 1⟩ : Mr), ⟨6, 2⟩])] ∧ pickE [((9 : UInt16), [(⟨5, 1⟩ : Mr), ⟨6, 2⟩])] 9 3 = 0 ∧ pickH [((9 : UInt16), [(⟨5, 1⟩ : Mr), ⟨6, 2⟩])] 9 3 = 5 ∧ pickE [((9 : UInt16), [(⟨5, 1⟩ : Mr), ⟨6, 2⟩])] 9 5 = 0 ∧ pickH [((9 : UInt16), [(⟨5, 1⟩ : Mr), ⟨6, 2⟩])] 9 5 = 6 ∧ gtakeE [((9 : UInt16), [(⟨5, 1⟩ : Mr), ⟨6, 2⟩])] 9 = 0 ∧ gtakeL [((9 : UInt16), [(⟨5, 1⟩ : Mr), ⟨6, 2⟩])] 9 = [] ∧ gloseL [((9 : UInt16), [(⟨5, 1⟩ : Mr), ⟨6, 2⟩])] 5 = [(9, [⟨6, 2⟩])] ∧ gwt [(⟨5, 1⟩ : Mr), ⟨6, 2⟩] = 3 ∧ gok [(⟨5, 1⟩ : Mr), ⟨6, 2⟩] = true ∧ gall [((9 : UInt16), [(⟨5, 1⟩ : Mr), ⟨6, 2⟩])] = true := by decide +kernel
set_option maxRecDepth 20000 in
theorem aw20w_c (w : World)   : Calls Try.prog 39 #[] w fun e w' => e = .returned (.bool true) ∧ Mem w [] w' := by
  obtain ⟨k1, k2, k3, k4, k5, k6, k7, k8, k9, k10, k11, k12⟩ := aw20
  refine calls_of (args := []) Try.func39 rfl Try.ntmps39 rfl ?_
  change Cw _ _ _ _ _ [] []
  refine cw_seq ?_
  refine cw_region ?_
  refine sq_r (ry_assign rfl) ?_
  refine sq_nil ?_
  refine ex_then ?_
  refine cw_seq ?_
  refine cw_region ?_
  refine sq_r (ry_build (v := .agg (mrcells ⟨5, 1⟩)) rfl (fun w => by kernel_rfl)) ?_
  refine sq_r (ry_build (v := .agg (mrcells ⟨6, 2⟩)) rfl (fun w => by kernel_rfl)) ?_
  refine sq_buildSlice (enc := mrcells) (vals := [_, _]) [(⟨5, 1⟩ : Mr), (⟨6, 2⟩ : Mr)] rfl rfl rfl (by decide) (by decide) fun b13 => ?_
  refine sq_r (ry_build (v := .agg (gpcells (⟨9, ⟨⟨false, b13, 0, 2, 2, none⟩, [(⟨5, 1⟩ : Mr), ⟨6, 2⟩]⟩⟩ : Gp))) rfl (fun w => by kernel_rfl)) ?_
  refine sq_allocA fun b1 => ?_
  refine sq_storeW rfl rfl ?_
  refine sq_nil ?_
  refine ex_then ?_
  refine cw_seq ?_
  refine cw_region ?_
  refine sq_r (ry_whole rfl) ?_
  refine sq_callC (vs := [(Sl.sv (Sl.nil : Sl Gp)).val, _]) rfl ⟨by decide, (fun x hx => by cases hx), by simp⟩ fun x17 hp17 => ?_
  have ib17 : InBag x17.1.xs x17.2 := hp17.1
  have gv17 : gvs x17.1.xs = [((9 : UInt16), [(⟨5, 1⟩ : Mr), ⟨6, 2⟩])] := hp17.2.trans k2
  have ga17 : gall (gvs x17.1.xs) = true := by rw [gv17]; exact k12
  have fw17 := gall_few ga17
  have l17 : x17.1.xs.length = 1 := by rw [← gvs_length, gv17]; rfl
  rw [← gv17] at k3 k4 k5 k6 k7 k8 k9
  refine sq_r (ry_move rfl) ?_
  refine sq_r (ry_extract (v := x17.1.sv.val) rfl rfl) ?_
  refine sq_r (ry_extract (v := .int .i64 (gputE (gvs (Sl.nil : Sl Gp).xs) (gval (⟨9, ⟨⟨false, b13, 0, 2, 2, none⟩, [(⟨5, 1⟩ : Mr), ⟨6, 2⟩]⟩⟩ : Gp)))) rfl rfl) ?_
  refine sq_r (ry_assign rfl) ?_
  refine sq_r (ry_assign rfl) ?_
  refine sq_nil ?_
  refine ex_then ?_
  refine cw_seq ?_
  refine cw_region ?_
  refine sq_r (ry_move rfl) ?_
  refine sq_y (yl_callC (vs := [_, .int .u16 ((9 : UInt16).toNat : Int), .int .u32 ((3 : UInt32).toNat : Int)]) rfl trivial) ?_
  refine sq_r (ry_move rfl) ?_
  refine sq_r (ry_extract (v := .int .u16 ((pickH (gvs x17.1.xs) (9 : UInt16) (3 : UInt32).toNat).toNat : Nat)) rfl rfl) ?_
  refine sq_r (ry_extract (v := .int .i64 (pickE (gvs x17.1.xs) (9 : UInt16) (3 : UInt32).toNat)) rfl rfl) ?_
  refine sq_r (ry_assign rfl) ?_
  refine sq_r (ry_assign rfl) ?_
  refine sq_nil ?_
  refine ex_then ?_
  refine cw_seq ?_
  refine cw_region ?_
  refine sq_r (ry_move rfl) ?_
  refine sq_y (yl_callC (vs := [_, .int .u16 ((9 : UInt16).toNat : Int), .int .u32 ((5 : UInt32).toNat : Int)]) rfl trivial) ?_
  refine sq_r (ry_move rfl) ?_
  refine sq_r (ry_extract (v := .int .u16 ((pickH (gvs x17.1.xs) (9 : UInt16) (5 : UInt32).toNat).toNat : Nat)) rfl rfl) ?_
  refine sq_r (ry_extract (v := .int .i64 (pickE (gvs x17.1.xs) (9 : UInt16) (5 : UInt32).toNat)) rfl rfl) ?_
  refine sq_r (ry_assign rfl) ?_
  refine sq_r (ry_assign rfl) ?_
  refine sq_nil ?_
  refine ex_then ?_
  refine cw_seq ?_
  refine cw_region ?_
  refine sq_r (ry_move rfl) ?_
  refine sq_callC (vs := [_, .int .u16 ((9 : UInt16).toNat : Int)]) rfl ⟨by omega, fw17.2⟩ fun x32 hp32 => ?_
  have l32 : x32.1.xs.length = 0 := by rw [← gvs_length, hp32.2, k8]; rfl
  refine sq_r (ry_move rfl) ?_
  refine sq_r (ry_extract (v := x32.1.sv.val) rfl rfl) ?_
  refine sq_r (ry_extract (v := .int .i64 (gtakeE (gvs x17.1.xs) (9 : UInt16))) rfl rfl) ?_
  refine sq_r (ry_assign rfl) ?_
  refine sq_r (ry_assign rfl) ?_
  refine sq_nil ?_
  refine ex_then ?_
  refine cw_seq ?_
  refine cw_region ?_
  refine sq_r (ry_move rfl) ?_
  refine sq_callC (vs := [_, .int .u16 ((5 : UInt16).toNat : Int)]) rfl ⟨by omega, fw17.2⟩ fun x36 hp36 => ?_
  have ib36 : InBag x36.1.xs x36.2 := hp36.1
  have gv36 : gvs x36.1.xs = [(9, [⟨6, 2⟩])] := hp36.2.trans k9
  have l36 : x36.1.xs.length = 1 := by rw [← gvs_length, gv36]; rfl
  obtain ⟨z, hz⟩ := get_some (xs := x36.1.xs) (i := 0) (by omega)
  have hzm : z.ms.xs.length = 1 := by have := gvs_get hz; rw [gv36] at this; have h2 : ((9 : UInt16), [(⟨6, 2⟩ : Mr)]) = gval z := Option.some.inj this; have h3 := congrArg (fun p => p.2.length) h2; exact h3.symm
  have mbz : Mb z _ := ⟨List.mem_of_getElem? hz⟩
  have k1x : gputE (gvs (Sl.nil : Sl Gp).xs) (gval (⟨9, ⟨⟨false, b13, 0, 2, 2, none⟩, [(⟨5, 1⟩ : Mr), ⟨6, 2⟩]⟩⟩ : Gp)) = 0 := k1
  refine sq_r (ry_assign rfl) ?_
  refine sq_nil ?_
  refine ex_then ?_
  refine cw_seq ?_
  refine cw_region ?_
  refine sq_r (ry_move rfl) ?_
  refine sq_r (ry_int rfl rfl rfl) ?_
  refine sq_r (ry_move rfl) ?_
  refine sq_ty rfl rfl rfl (by simp [k1x, k3, k4, k5, k6, k7, l17, l32, l36, k10, k11, ga17]) (Ry.yl (ry_move rfl)) ?_
  refine sq_ty rfl rfl rfl (by simp [k1x, k3, k4, k5, k6, k7, l17, l32, l36, k10, k11, ga17]) (Ry.yl (ry_int rfl rfl rfl)) ?_
  refine sq_r (ry_pickT rfl (by simp [k1x, k3, k4, k5, k6, k7, l17, l32, l36, k10, k11, ga17]) rfl rfl) ?_
  refine sq_r (ry_move rfl) ?_
  refine sq_ty rfl rfl rfl (by simp [k1x, k3, k4, k5, k6, k7, l17, l32, l36, k10, k11, ga17]) (Ry.yl (ry_move rfl)) ?_
  refine sq_ty rfl rfl rfl (by simp [k1x, k3, k4, k5, k6, k7, l17, l32, l36, k10, k11, ga17]) (Ry.yl (ry_int rfl rfl rfl)) ?_
  refine sq_r (ry_pickT rfl (by simp [k1x, k3, k4, k5, k6, k7, l17, l32, l36, k10, k11, ga17]) rfl rfl) ?_
  refine sq_r (ry_move rfl) ?_
  refine sq_ty rfl rfl rfl (by simp [k1x, k3, k4, k5, k6, k7, l17, l32, l36, k10, k11, ga17]) (Ry.yl (ry_move rfl)) ?_
  refine sq_ty rfl rfl rfl (by simp [k1x, k3, k4, k5, k6, k7, l17, l32, l36, k10, k11, ga17]) (Ry.yl (ry_int rfl rfl rfl)) ?_
  refine sq_r (ry_pickT rfl (by simp [k1x, k3, k4, k5, k6, k7, l17, l32, l36, k10, k11, ga17]) rfl rfl) ?_
  refine sq_r (ry_move rfl) ?_
  refine sq_ty rfl rfl rfl (by simp [k1x, k3, k4, k5, k6, k7, l17, l32, l36, k10, k11, ga17]) (Ry.yl (ry_move rfl)) ?_
  refine sq_ty rfl rfl rfl (by simp [k1x, k3, k4, k5, k6, k7, l17, l32, l36, k10, k11, ga17]) (Ry.yl (ry_int rfl rfl rfl)) ?_
  refine sq_r (ry_pickT rfl (by simp [k1x, k3, k4, k5, k6, k7, l17, l32, l36, k10, k11, ga17]) rfl rfl) ?_
  refine sq_r (ry_move rfl) ?_
  refine sq_ty rfl rfl rfl (by simp [k1x, k3, k4, k5, k6, k7, l17, l32, l36, k10, k11, ga17]) (Ry.yl (ry_move rfl)) ?_
  refine sq_ty rfl rfl rfl (by simp [k1x, k3, k4, k5, k6, k7, l17, l32, l36, k10, k11, ga17]) (Ry.yl (ry_int rfl rfl rfl)) ?_
  refine sq_r (ry_pickT rfl (by simp [k1x, k3, k4, k5, k6, k7, l17, l32, l36, k10, k11, ga17]) rfl rfl) ?_
  refine sq_r (ry_move rfl) ?_
  refine sq_ty rfl rfl rfl (by simp [k1x, k3, k4, k5, k6, k7, l17, l32, l36, k10, k11, ga17]) (Ry.yl (ry_move rfl)) ?_
  refine sq_ty rfl rfl rfl (by simp [k1x, k3, k4, k5, k6, k7, l17, l32, l36, k10, k11, ga17]) (Ry.yl (ry_lenH rfl)) ?_
  refine sq_ty rfl rfl rfl (by simp [k1x, k3, k4, k5, k6, k7, l17, l32, l36, k10, k11, ga17]) (Ry.yl (ry_int rfl rfl rfl)) ?_
  refine sq_r (ry_pickT rfl (by simp [k1x, k3, k4, k5, k6, k7, l17, l32, l36, k10, k11, ga17]) rfl rfl) ?_
  refine sq_r (ry_move rfl) ?_
  refine sq_ty rfl rfl rfl (by simp [k1x, k3, k4, k5, k6, k7, l17, l32, l36, k10, k11, ga17]) (Ry.yl (ry_move rfl)) ?_
  refine sq_ty rfl rfl rfl (by simp [k1x, k3, k4, k5, k6, k7, l17, l32, l36, k10, k11, ga17]) (Ry.yl (ry_lenH rfl)) ?_
  refine sq_ty rfl rfl rfl (by simp [k1x, k3, k4, k5, k6, k7, l17, l32, l36, k10, k11, ga17]) (Ry.yl (ry_int rfl rfl rfl)) ?_
  refine sq_r (ry_pickT rfl (by simp [k1x, k3, k4, k5, k6, k7, l17, l32, l36, k10, k11, ga17]) rfl rfl) ?_
  refine sq_r (ry_move rfl) ?_
  refine sq_ty rfl rfl rfl (by simp [k1x, k3, k4, k5, k6, k7, l17, l32, l36, k10, k11, ga17]) (Ry.yl (ry_whole rfl)) ?_
  refine sq_ty rfl rfl rfl (by simp [k1x, k3, k4, k5, k6, k7, l17, l32, l36, k10, k11, ga17]) (yl_callC rfl trivial) ?_
  refine sq_ty rfl rfl rfl (by simp [k1x, k3, k4, k5, k6, k7, l17, l32, l36, k10, k11, ga17]) (Ry.yl (ry_int rfl rfl rfl)) ?_
  refine sq_r (ry_pickT rfl (by simp [k1x, k3, k4, k5, k6, k7, l17, l32, l36, k10, k11, ga17]) rfl rfl) ?_
  refine sq_r (ry_move rfl) ?_
  refine sq_ty rfl rfl rfl (by simp [k1x, k3, k4, k5, k6, k7, l17, l32, l36, k10, k11, ga17]) (Ry.yl (ry_whole rfl)) ?_
  refine sq_ty rfl rfl rfl (by simp [k1x, k3, k4, k5, k6, k7, l17, l32, l36, k10, k11, ga17]) (yl_callC rfl trivial) ?_
  refine sq_r (ry_pickT rfl (by simp [k1x, k3, k4, k5, k6, k7, l17, l32, l36, k10, k11, ga17]) rfl rfl) ?_
  refine sq_r (ry_move rfl) ?_
  refine sq_ty rfl rfl rfl (by simp [k1x, k3, k4, k5, k6, k7, l17, l32, l36, k10, k11, ga17]) (Ry.yl (ry_move rfl)) ?_
  refine sq_ty rfl rfl rfl (by simp [k1x, k3, k4, k5, k6, k7, l17, l32, l36, k10, k11, ga17]) (yl_callC rfl trivial) ?_
  refine sq_r (ry_pickT rfl (by simp [k1x, k3, k4, k5, k6, k7, l17, l32, l36, k10, k11, ga17]) rfl rfl) ?_
  refine sq_r (ry_move rfl) ?_
  refine sq_ty rfl rfl rfl (by simp [k1x, k3, k4, k5, k6, k7, l17, l32, l36, k10, k11, ga17]) (Ry.yl (ry_move rfl)) ?_
  refine sq_ty rfl rfl rfl (by simp [k1x, k3, k4, k5, k6, k7, l17, l32, l36, k10, k11, ga17]) (Ry.yl (ry_lenH rfl)) ?_
  refine sq_ty rfl rfl rfl (by simp [k1x, k3, k4, k5, k6, k7, l17, l32, l36, k10, k11, ga17]) (Ry.yl (ry_int rfl rfl rfl)) ?_
  refine sq_r (ry_pickT rfl (by simp [k1x, k3, k4, k5, k6, k7, l17, l32, l36, k10, k11, ga17]) rfl rfl) ?_
  refine sq_r (ry_move rfl) ?_
  refine sq_ty rfl rfl rfl (by simp [k1x, k3, k4, k5, k6, k7, l17, l32, l36, k10, k11, ga17]) (Ry.yl (ry_move rfl)) ?_
  refine sq_ty rfl rfl rfl (by simp [k1x, k3, k4, k5, k6, k7, l17, l32, l36, k10, k11, ga17]) (Ry.yl (ry_idxH rfl rfl 0 rfl (by omega))) ?_
  refine sq_ty rfl rfl rfl (by simp [k1x, k3, k4, k5, k6, k7, l17, l32, l36, k10, k11, ga17]) (Ry.yl (ry_field rfl rfl)) ?_
  refine sq_ty rfl rfl rfl (by simp [k1x, k3, k4, k5, k6, k7, l17, l32, l36, k10, k11, ga17]) (Ry.yl (ry_elemcH (j := 1) rfl 0 hz rfl (by decide))) ?_
  have mb91 : Mb z _ := ⟨List.mem_of_getElem? hz⟩
  refine sq_ty rfl rfl rfl (by simp [k1x, k3, k4, k5, k6, k7, l17, l32, l36, k10, k11, ga17]) (Ry.yl (ry_lenH rfl)) ?_
  refine sq_ty rfl rfl rfl (by simp [k1x, k3, k4, k5, k6, k7, l17, l32, l36, k10, k11, ga17]) (Ry.yl (ry_int rfl rfl rfl)) ?_
  refine sq_r (ry_pickT rfl (by simp [k1x, k3, k4, k5, k6, k7, l17, l32, l36, k10, k11, ga17]) rfl rfl) ?_
  refine sq_r (ry_assign rfl) ?_
  refine sq_nil ?_
  refine ex_then ?_
  refine cw_ret ?_
  refine ex_ret (.inl rfl) (res_1 rfl (rv_tmp rfl)) (fun w1 hw => ?_)
  exact ⟨congrArg (fun b => Ending.returned (Value.bool b)) ((by simp [hzm])), Keep.mem hw⟩
instance aw20w_i {w0 : World} {L : List Ent}   : FnQ Try.prog 39 w0 L [] (.bool true) (True) := ⟨fun hp w hw => aw20w_c w  ⟩

end Go.Proofs.Ytajhlgdapiihgaa

