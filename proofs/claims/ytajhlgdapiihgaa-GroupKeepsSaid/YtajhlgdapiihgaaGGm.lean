/- The law GroupKeeps: walked. -/
import Derived.Test.YtajhlgdapiihgaaMo

set_option linter.unusedSimpArgs false
set_option linter.unusedVariables false
namespace Go.Proofs.Ytajhlgdapiihgaa
open Go.Eng Go.Kb
set_option maxRecDepth 20000 in
theorem groupKeeps_c (w : World) (l : Sl Gp) (g : Gp) (h : UInt32) (q : UInt16) (hl : Deep.good (hp w) l) (hg : Deep.good (hp w) g) : Calls Try.prog 9 #[l.sv.val, .agg (gpcells g), .int .u32 (h.toNat : Nat), .int .u16 (q.toNat : Nat)] w fun e w' => e = .returned (.bool true) ∧ Mem w [] w' := by
  have ghl : GvD w l := ⟨hl⟩
  have ghg : GvD w g := ⟨hg⟩
  have hgl := gvs_length l.xs
  refine calls_of (args := [_, _, _, _]) Try.func9 rfl Try.ntmps9 rfl ?_
  change Cw _ _ _ _ _ [(0, l.sv.val), (1, .agg (gpcells g)), (2, .int .u32 (h.toNat : Nat)), (3, .int .u16 (q.toNat : Nat))] []
  refine cw_seq ?_
  refine cw_region ?_
  refine sq_boxA rfl fun b5 => ?_
  refine sq_r (ry_assign rfl) ?_
  refine sq_nil ?_
  refine ex_then ?_
  refine cw_seq ?_
  refine cw_seq ?_
  refine cw_region ?_
  refine sq_y (yl_callC rfl trivial) ?_
  refine sq_r (ry_not rfl) ?_
  refine sq_nil ?_
  refine ex_then ?_
  refine cw_cond rfl (fun h0 => ?_) (fun h0 => ?_)
  · exfalso; simp at h0
  · try simp only [Bool.and_eq_true, Bool.or_eq_true, Bool.and_eq_false_iff, Bool.or_eq_false_iff, Bool.not_eq_true', Bool.not_eq_false', decide_eq_true_eq, decide_eq_false_iff_not, Bool.not_eq_true, Bool.not_eq_false] at h0
    refine cw_skip ?_
    refine ex_then ?_
    refine cw_seq ?_
    refine cw_seq ?_
    refine cw_region ?_
    refine sq_r (ry_move rfl) ?_
    refine sq_r (ry_lenH rfl) ?_
    refine sq_r (ry_int rfl rfl rfl) ?_
    refine sq_r (ry_move rfl) ?_
    refine sq_gf rfl rfl rfl (fun hg => (Ry.yl (ry_field (o' := 1) rfl rfl))) ?_
    refine sq_gf rfl rfl rfl (fun hg => (Ry.yl (ry_cellc (ev_c hg rfl)))) ?_
    refine sq_gf rfl rfl rfl (fun hg => (Ry.yl (ry_lenH (ev_c hg rfl)))) ?_
    refine sq_gf rfl rfl rfl (fun hg => (Ry.yl (ry_int (ev_c hg rfl) rfl rfl))) ?_
    refine sq_r (ry_or rfl rfl rfl) ?_
    refine sq_r (ry_move rfl) ?_
    refine sq_gf rfl rfl rfl (fun hg => (Ry.yl (ry_move rfl))) ?_
    refine sq_gf rfl rfl rfl (fun hg => yl_callC (evl_cons (ev_c hg rfl) evl_nil) trivial) ?_
    refine sq_gf rfl rfl rfl (fun hg => (Ry.yl (ry_not (ev_c hg rfl)))) ?_
    refine sq_r (ry_or rfl rfl rfl) ?_
    refine sq_r (ry_move rfl) ?_
    refine sq_gf rfl rfl rfl (fun hg => (Ry.yl (ry_whole rfl))) ?_
    refine sq_gf rfl rfl rfl (fun hg => yl_callC (evl_cons (ev_c hg rfl) evl_nil) trivial) ?_
    refine sq_gf rfl rfl rfl (fun hg => (Ry.yl (ry_not (ev_c hg rfl)))) ?_
    refine sq_r (ry_or rfl rfl rfl) ?_
    refine sq_nil ?_
    refine ex_then ?_
    refine cw_cond rfl (fun h1 => ?_) (fun h1 => ?_)
    · try simp only [Bool.and_eq_true, Bool.or_eq_true, Bool.and_eq_false_iff, Bool.or_eq_false_iff, Bool.not_eq_true', Bool.not_eq_false', decide_eq_true_eq, decide_eq_false_iff_not, Bool.not_eq_true, Bool.not_eq_false] at h1
      refine cw_seq ?_
      refine cw_region ?_
      refine sq_r (ry_assign rfl) ?_
      refine sq_nil ?_
      refine ex_then ?_
      refine cw_ret ?_
      refine ex_pass_ret ?_
      refine ex_ret (.inl rfl) (res_1 rfl (rv_tmp rfl)) (fun w1 hw => ?_)
      exact ⟨congrArg (fun b => Ending.returned (Value.bool b)) (rfl), Keep.mem hw⟩
    · try simp only [Bool.and_eq_true, Bool.or_eq_true, Bool.and_eq_false_iff, Bool.or_eq_false_iff, Bool.not_eq_true', Bool.not_eq_false', decide_eq_true_eq, decide_eq_false_iff_not, Bool.not_eq_true, Bool.not_eq_false] at h1
      have hga : gall (gvs l.xs) = true := by simpa using h1.1.2
      have hgo : gok g.ms.xs = true := by simpa using h1.2
      have hlen : l.xs.length ≤ 60 ∧ g.ms.xs.length ≤ 16 := by omega
      obtain ⟨p1, p2, p3⟩ := gput_ok (g := gval g) hga hgo (by omega)
      have fwl := gall_few hga
      have pg : gval g ∈ gputL (gvs l.xs) (gval g) := (p3 _).2 (.inl rfl)
      refine cw_skip ?_
      refine ex_then ?_
      refine cw_seq ?_
      refine cw_region ?_
      refine sq_r (ry_move rfl) ?_
      refine sq_r (ry_whole rfl) ?_
      refine sq_callC rfl ⟨by omega, fwl.2, by omega⟩ fun x50 hp50 => ?_
      have ib50 : InBag x50.1.xs x50.2 := hp50.1
      have gv50 : gvs x50.1.xs = gputL (gvs l.xs) (gval g) := hp50.2
      have ga50 : gall (gvs x50.1.xs) = true := by rw [gv50]; exact p2
      have fw50 := gall_few ga50
      have pg50 : gval g ∈ gvs x50.1.xs := by rw [gv50]; exact pg
      obtain ⟨t1, t2, t3, t4⟩ := gtake_ok ga50 pg50
      have t1x : gtakeE (gvs x50.1.xs) g.num = 0 := t1
      refine sq_r (ry_move rfl) ?_
      refine sq_r (ry_extract (v := x50.1.sv.val) rfl rfl) ?_
      refine sq_r (ry_extract (v := .int .i64 (gputE (gvs l.xs) (gval g))) rfl rfl) ?_
      refine sq_r (ry_assign rfl) ?_
      refine sq_r (ry_assign rfl) ?_
      refine sq_nil ?_
      refine ex_then ?_
      refine cw_seq ?_
      refine cw_seq ?_
      refine cw_region ?_
      refine sq_r (ry_move rfl) ?_
      refine sq_r (ry_int rfl rfl rfl) ?_
      refine sq_r (ry_move rfl) ?_
      refine sq_gf rfl rfl rfl (fun hg => (Ry.yl (ry_move rfl))) ?_
      refine sq_gf rfl rfl rfl (fun hg => yl_callC (evl_cons (ev_c hg rfl) evl_nil) trivial) ?_
      refine sq_gf rfl rfl rfl (fun hg => (Ry.yl (ry_not (ev_c hg rfl)))) ?_
      refine sq_r (ry_or rfl rfl rfl) ?_
      refine sq_nil ?_
      refine ex_then ?_
      refine cw_cond rfl (fun h2 => ?_) (fun h2 => ?_)
      · exfalso; simp [p1, ga50] at h2
      · try simp only [Bool.and_eq_true, Bool.or_eq_true, Bool.and_eq_false_iff, Bool.or_eq_false_iff, Bool.not_eq_true', Bool.not_eq_false', decide_eq_true_eq, decide_eq_false_iff_not, Bool.not_eq_true, Bool.not_eq_false] at h2
        refine cw_skip ?_
        refine ex_then ?_
        refine cw_seq ?_
        refine cw_region ?_
        refine sq_r (ry_move rfl) ?_
        refine sq_r (ry_field (o' := 0) rfl rfl) ?_
        refine sq_r (ry_cellc rfl) ?_
        refine sq_callC rfl ⟨by omega, fw50.2⟩ fun x64 hp64 => ?_
        have ib64 : InBag x64.1.xs x64.2 := hp64.1
        have gv64 : gvs x64.1.xs = gtakeL (gvs x50.1.xs) (gval g).1 := hp64.2
        have ga64 : gall (gvs x64.1.xs) = true := by rw [gv64]; exact t3
        have pos50 : 0 < x50.1.xs.length := by have := List.length_pos_of_mem pg50; rw [gvs_length] at this; exact this
        have l64 : ((x64.1.xs.length : Nat) : Int) = (x50.1.xs.length : Int) - 1 := by have h1 := gvs_length x64.1.xs; rw [gv64, t2, gvs_length] at h1; omega
        have e72 : pickE (gvs x64.1.xs) g.num h.toNat = 6 := pick_none ga64 (fun x hx => by rw [gv64] at hx; exact ((t4 x).1 hx).2) h.toNat
        refine sq_r (ry_move rfl) ?_
        refine sq_r (ry_extract (v := x64.1.sv.val) rfl rfl) ?_
        refine sq_r (ry_extract (v := .int .i64 (gtakeE (gvs x50.1.xs) g.num)) rfl rfl) ?_
        refine sq_r (ry_assign rfl) ?_
        refine sq_r (ry_assign rfl) ?_
        refine sq_nil ?_
        refine ex_then ?_
        refine cw_seq ?_
        refine cw_region ?_
        refine sq_r (ry_move rfl) ?_
        refine sq_r (ry_field (o' := 0) rfl rfl) ?_
        refine sq_r (ry_cellc rfl) ?_
        refine sq_r (ry_move rfl) ?_
        refine sq_y (yl_callC rfl trivial) ?_
        refine sq_r (ry_move rfl) ?_
        refine sq_r (ry_extract (v := .int .u16 ((pickH (gvs x64.1.xs) g.num h.toNat).toNat : Nat)) rfl rfl) ?_
        refine sq_r (ry_extract (v := .int .i64 (pickE (gvs x64.1.xs) g.num h.toNat)) rfl rfl) ?_
        refine sq_r (ry_assign rfl) ?_
        refine sq_r (ry_assign rfl) ?_
        refine sq_nil ?_
        refine ex_then ?_
        refine cw_seq ?_
        refine cw_seq ?_
        refine cw_region ?_
        refine sq_r (ry_move rfl) ?_
        refine sq_r (ry_int rfl rfl rfl) ?_
        refine sq_r (ry_move rfl) ?_
        refine sq_gf rfl rfl rfl (fun hg => (Ry.yl (ry_move rfl))) ?_
        refine sq_gf rfl rfl rfl (fun hg => (Ry.yl (ry_int (ev_c hg rfl) rfl rfl))) ?_
        refine sq_r (ry_or rfl rfl rfl) ?_
        refine sq_r (ry_move rfl) ?_
        refine sq_gf rfl rfl rfl (fun hg => (Ry.yl (ry_move rfl))) ?_
        refine sq_gf rfl rfl rfl (fun hg => (Ry.yl (ry_lenH (ev_c hg rfl)))) ?_
        refine sq_gf rfl rfl rfl (fun hg => (Ry.yl (ry_move rfl))) ?_
        refine sq_gf rfl rfl rfl (fun hg => (Ry.yl (ry_lenH (ev_c hg rfl)))) ?_
        refine sq_gf rfl rfl rfl (fun hg => (Ry.yl (ry_sub (ev_c hg rfl) rfl (by simp only [Bool.and_eq_true, Bool.or_eq_true, Bool.and_eq_false_iff, Bool.or_eq_false_iff, Bool.not_eq_true', Bool.not_eq_false', decide_eq_true_eq, decide_eq_false_iff_not, Bool.not_eq_true, Bool.not_eq_false] at hg; omega)))) ?_
        refine sq_gf rfl rfl rfl (fun hg => (Ry.yl (ry_int (ev_c hg rfl) (ev_c hg rfl) rfl))) ?_
        refine sq_r (ry_or rfl rfl rfl) ?_
        refine sq_nil ?_
        refine ex_then ?_
        refine cw_cond rfl (fun h3 => ?_) (fun h3 => ?_)
        · exfalso; simp [t1x, e72, l64] at h3
        · try simp only [Bool.and_eq_true, Bool.or_eq_true, Bool.and_eq_false_iff, Bool.or_eq_false_iff, Bool.not_eq_true', Bool.not_eq_false', decide_eq_true_eq, decide_eq_false_iff_not, Bool.not_eq_true, Bool.not_eq_false] at h3
          refine cw_skip ?_
          refine ex_then ?_
          refine cw_seq ?_
          refine cw_seq ?_
          refine cw_region ?_
          refine sq_r (ry_assign rfl) ?_
          refine sq_nil ?_
          refine ex_then ?_
          refine cw_block ?_
          refine cw_loop (X := Nat) (fun zz => [(15, .int .i64 (zz : Nat)), (0, l.sv.val), (2, .int .u32 (h.toNat : Nat)), (3, .int .u16 (q.toNat : Nat)), (5, .pointer (some ⟨b5, 0, none⟩)), (9, x50.1.sv.val), (11, x64.1.sv.val)]) (fun zz => [blk b5 (gpcells g) 51, own gpcells 2 x50.1.sv x50.1.xs, Ent.all x50.2, own gpcells 2 x64.1.sv x64.1.xs, Ent.all x64.2]) (fun zz => zz ≤ l.xs.length) (fun zz => l.xs.length - zz) 0 (Nat.zero_le _) (Sub.cons rfl (Sub.cons rfl (Sub.cons rfl (Sub.cons rfl (Sub.cons rfl (Sub.cons rfl (Sub.cons rfl (Sub.nil _)))))))) (fun w hw => Keep.mem hw) ?_
          rintro i hi1
          refine cw_seq ?_
          refine cw_seq ?_
          refine cw_region ?_
          refine sq_r (ry_move rfl) ?_
          refine sq_r (ry_move rfl) ?_
          refine sq_r (ry_lenH rfl) ?_
          refine sq_r (ry_int rfl rfl rfl) ?_
          refine sq_nil ?_
          refine ex_then ?_
          refine cw_cond rfl (fun h4 => ?_) (fun h4 => ?_)
          · try simp only [Bool.and_eq_true, Bool.or_eq_true, Bool.and_eq_false_iff, Bool.or_eq_false_iff, Bool.not_eq_true', Bool.not_eq_false', decide_eq_true_eq, decide_eq_false_iff_not, Bool.not_eq_true, Bool.not_eq_false] at h4
            obtain ⟨z, hz⟩ := get_some (xs := l.xs) (i := i) (by omega)
            have mbz : Mb z _ := ⟨List.mem_of_getElem? hz⟩
            have zl : gval z ∈ gvs l.xs := List.mem_map_of_mem (List.mem_of_getElem? hz)
            refine cw_skip ?_
            refine ex_then ?_
            refine cw_seq ?_
            refine cw_block ?_
            refine cw_seq ?_
            refine cw_seq ?_
            refine cw_quiet (by kernel_rfl) (by kernel_rfl) ?_
            refine qt_r (ry_move rfl) ?_
            refine qt_r (ry_move rfl) ?_
            refine qt_r (ry_idxH rfl rfl i rfl (by omega)) ?_
            refine qt_r (ry_field rfl rfl) ?_
            refine qt_r (ry_elemcH (j := 0) rfl i hz rfl (by decide)) ?_
            refine qt_r (ry_field (o' := 0) rfl rfl) ?_
            refine qt_r (ry_cellc rfl) ?_
            refine qt_r (ry_int rfl rfl rfl) ?_
            refine qt_nil ?_
            refine ex_then ?_
            refine cw_cond rfl (fun h5 => ?_) (fun h5 => ?_)
            · try simp only [Bool.and_eq_true, Bool.or_eq_true, Bool.and_eq_false_iff, Bool.or_eq_false_iff, Bool.not_eq_true', Bool.not_eq_false', decide_eq_true_eq, decide_eq_false_iff_not, Bool.not_eq_true, Bool.not_eq_false] at h5
              refine cw_exit ?_
              refine ex_pass_exit ?_
              refine ex_block_hit ?_
              refine ex_then ?_
              refine cw_region ?_
              refine sq_r (ry_move rfl) ?_
              refine sq_r (ry_add rfl rfl (by omega)) ?_
              refine sq_r (ry_assign rfl) ?_
              refine sq_nil ?_
              exact ex_again (x := (i)) (i + 1) (by first | omega | (simp only []; omega)) (by first | omega | (simp only []; omega)) (Sub.cons rfl (Sub.cons rfl (Sub.cons rfl (Sub.cons rfl (Sub.cons rfl (Sub.cons rfl (Sub.cons rfl (Sub.nil _)))))))) (fun w hw => Keep.mem hw)
            · try simp only [Bool.and_eq_true, Bool.or_eq_true, Bool.and_eq_false_iff, Bool.or_eq_false_iff, Bool.not_eq_true', Bool.not_eq_false', decide_eq_true_eq, decide_eq_false_iff_not, Bool.not_eq_true, Bool.not_eq_false] at h5
              have zn : (gval z).1 ≠ (gval g).1 := fun e => h5 (congrArg (fun x : UInt16 => (x.toNat : Int)) e)
              have zm : gval z ∈ gvs x50.1.xs := by rw [gv50]; exact (p3 _).2 (.inr ⟨zl, zn⟩)
              have zn2 : gval z ∈ gvs x64.1.xs := by rw [gv64]; exact (t4 _).2 ⟨zm, zn⟩
              have q1 : pickE (gvs l.xs) z.num h.toNat = 0 ∧ pickH (gvs l.xs) z.num h.toNat = pickG (gval z).2 h.toNat := pick_mem hga zl h.toNat
              have q2 : pickE (gvs x50.1.xs) z.num h.toNat = 0 ∧ pickH (gvs x50.1.xs) z.num h.toNat = pickG (gval z).2 h.toNat := pick_mem ga50 zm h.toNat
              have q3 : pickE (gvs x64.1.xs) z.num h.toNat = 0 ∧ pickH (gvs x64.1.xs) z.num h.toNat = pickG (gval z).2 h.toNat := pick_mem ga64 zn2 h.toNat
              refine cw_skip ?_
              refine ex_then ?_
              refine cw_seq ?_
              refine cw_region ?_
              refine sq_r (ry_move rfl) ?_
              refine sq_r (ry_move rfl) ?_
              refine sq_r (ry_move rfl) ?_
              refine sq_r (ry_idxH rfl rfl i rfl (by omega)) ?_
              refine sq_r (ry_field rfl rfl) ?_
              refine sq_r (ry_elemcH (j := 0) rfl i hz rfl (by decide)) ?_
              refine sq_r (ry_move rfl) ?_
              refine sq_y (yl_callC rfl trivial) ?_
              refine sq_r (ry_move rfl) ?_
              refine sq_r (ry_extract (v := .int .u16 ((pickH (gvs l.xs) z.num h.toNat).toNat : Nat)) rfl rfl) ?_
              refine sq_r (ry_extract (v := .int .i64 (pickE (gvs l.xs) z.num h.toNat)) rfl rfl) ?_
              refine sq_r (ry_assign rfl) ?_
              refine sq_r (ry_assign rfl) ?_
              refine sq_nil ?_
              refine ex_then ?_
              refine cw_seq ?_
              refine cw_region ?_
              refine sq_r (ry_move rfl) ?_
              refine sq_r (ry_move rfl) ?_
              refine sq_r (ry_move rfl) ?_
              refine sq_r (ry_idxH rfl rfl i rfl (by omega)) ?_
              refine sq_r (ry_field rfl rfl) ?_
              refine sq_r (ry_elemcH (j := 0) rfl i hz rfl (by decide)) ?_
              refine sq_r (ry_move rfl) ?_
              refine sq_y (yl_callC rfl trivial) ?_
              refine sq_r (ry_move rfl) ?_
              refine sq_r (ry_extract (v := .int .u16 ((pickH (gvs x50.1.xs) z.num h.toNat).toNat : Nat)) rfl rfl) ?_
              refine sq_r (ry_extract (v := .int .i64 (pickE (gvs x50.1.xs) z.num h.toNat)) rfl rfl) ?_
              refine sq_r (ry_assign rfl) ?_
              refine sq_r (ry_assign rfl) ?_
              refine sq_nil ?_
              refine ex_then ?_
              refine cw_seq ?_
              refine cw_region ?_
              refine sq_r (ry_move rfl) ?_
              refine sq_r (ry_move rfl) ?_
              refine sq_r (ry_move rfl) ?_
              refine sq_r (ry_idxH rfl rfl i rfl (by omega)) ?_
              refine sq_r (ry_field rfl rfl) ?_
              refine sq_r (ry_elemcH (j := 0) rfl i hz rfl (by decide)) ?_
              refine sq_r (ry_move rfl) ?_
              refine sq_y (yl_callC rfl trivial) ?_
              refine sq_r (ry_move rfl) ?_
              refine sq_r (ry_extract (v := .int .u16 ((pickH (gvs x64.1.xs) z.num h.toNat).toNat : Nat)) rfl rfl) ?_
              refine sq_r (ry_extract (v := .int .i64 (pickE (gvs x64.1.xs) z.num h.toNat)) rfl rfl) ?_
              refine sq_r (ry_assign rfl) ?_
              refine sq_r (ry_assign rfl) ?_
              refine sq_nil ?_
              refine ex_then ?_
              refine cw_seq ?_
              refine cw_region ?_
              refine sq_r (ry_move rfl) ?_
              refine sq_r (ry_int rfl rfl rfl) ?_
              refine sq_r (ry_move rfl) ?_
              refine sq_gf rfl rfl rfl (fun hg => (Ry.yl (ry_move rfl))) ?_
              refine sq_gf rfl rfl rfl (fun hg => (Ry.yl (ry_int (ev_c hg rfl) rfl rfl))) ?_
              refine sq_r (ry_or rfl rfl rfl) ?_
              refine sq_r (ry_move rfl) ?_
              refine sq_gf rfl rfl rfl (fun hg => (Ry.yl (ry_move rfl))) ?_
              refine sq_gf rfl rfl rfl (fun hg => (Ry.yl (ry_int (ev_c hg rfl) rfl rfl))) ?_
              refine sq_r (ry_or rfl rfl rfl) ?_
              refine sq_r (ry_move rfl) ?_
              refine sq_gf rfl rfl rfl (fun hg => (Ry.yl (ry_move rfl))) ?_
              refine sq_gf rfl rfl rfl (fun hg => (Ry.yl (ry_move rfl))) ?_
              refine sq_gf rfl rfl rfl (fun hg => (Ry.yl (ry_int (ev_c hg rfl) (ev_c hg rfl) rfl))) ?_
              refine sq_r (ry_or rfl rfl rfl) ?_
              refine sq_r (ry_move rfl) ?_
              refine sq_gf rfl rfl rfl (fun hg => (Ry.yl (ry_move rfl))) ?_
              refine sq_gf rfl rfl rfl (fun hg => (Ry.yl (ry_move rfl))) ?_
              refine sq_gf rfl rfl rfl (fun hg => (Ry.yl (ry_int (ev_c hg rfl) (ev_c hg rfl) rfl))) ?_
              refine sq_r (ry_or rfl rfl rfl) ?_
              refine sq_nil ?_
              refine ex_then ?_
              refine cw_cond rfl (fun h6 => ?_) (fun h6 => ?_)
              · exfalso; simp [q1.1, q1.2, q2.1, q2.2, q3.1, q3.2] at h6
              · try simp only [Bool.and_eq_true, Bool.or_eq_true, Bool.and_eq_false_iff, Bool.or_eq_false_iff, Bool.not_eq_true', Bool.not_eq_false', decide_eq_true_eq, decide_eq_false_iff_not, Bool.not_eq_true, Bool.not_eq_false] at h6
                refine cw_skip ?_
                refine ex_block ?_
                refine ex_then ?_
                refine cw_region ?_
                refine sq_r (ry_move rfl) ?_
                refine sq_r (ry_add rfl rfl (by omega)) ?_
                refine sq_r (ry_assign rfl) ?_
                refine sq_nil ?_
                exact ex_again (x := (i)) (i + 1) (by first | omega | (simp only []; omega)) (by first | omega | (simp only []; omega)) (Sub.cons rfl (Sub.cons rfl (Sub.cons rfl (Sub.cons rfl (Sub.cons rfl (Sub.cons rfl (Sub.cons rfl (Sub.nil _)))))))) (fun w hw => Keep.mem hw)
          · try simp only [Bool.and_eq_true, Bool.or_eq_true, Bool.and_eq_false_iff, Bool.or_eq_false_iff, Bool.not_eq_true', Bool.not_eq_false', decide_eq_true_eq, decide_eq_false_iff_not, Bool.not_eq_true, Bool.not_eq_false] at h4
            refine cw_exit ?_
            refine ex_pass_exit ?_
            refine ex_pass_exit ?_
            refine ex_block_hit ?_
            refine ex_then ?_
            refine cw_seq ?_
            refine cw_region ?_
            refine sq_r (ry_move rfl) ?_
            refine sq_r (ry_move rfl) ?_
            refine sq_callC rfl ⟨by omega, fw50.2⟩ fun x158 hp158 => ?_
            have ib158 : InBag x158.1.xs x158.2 := hp158.1
            have gv158 : gvs x158.1.xs = gloseL (gvs x50.1.xs) q := hp158.2
            obtain ⟨o1, o2, o3⟩ := glose_ok ga50 q
            have ga158 : gall (gvs x158.1.xs) = true := by rw [gv158]; exact o1
            have l158 : x158.1.xs.length ≤ x50.1.xs.length := by rw [← gvs_length, gv158, ← gvs_length x50.1.xs]; exact o2
            refine sq_r (ry_assign rfl) ?_
            refine sq_nil ?_
            refine ex_then ?_
            refine cw_seq ?_
            refine cw_seq ?_
            refine cw_region ?_
            refine sq_r (ry_assign rfl) ?_
            refine sq_nil ?_
            refine ex_then ?_
            refine cw_block ?_
            refine cw_loop (X := Nat) (fun zz => [(23, .int .i64 (zz : Nat)), (2, .int .u32 (h.toNat : Nat)), (3, .int .u16 (q.toNat : Nat)), (9, x50.1.sv.val), (22, x158.1.sv.val)]) (fun zz => [own gpcells 2 x158.1.sv x158.1.xs, Ent.all x158.2, own gpcells 2 x50.1.sv x50.1.xs, Ent.all x50.2]) (fun zz => zz ≤ x158.1.xs.length) (fun zz => x158.1.xs.length - zz) 0 (Nat.zero_le _) (Sub.cons rfl (Sub.cons rfl (Sub.cons rfl (Sub.cons rfl (Sub.cons rfl (Sub.nil _)))))) (fun w hw => Keep.mem hw) ?_
            rintro j hj1
            refine cw_seq ?_
            refine cw_seq ?_
            refine cw_region ?_
            refine sq_r (ry_move rfl) ?_
            refine sq_r (ry_move rfl) ?_
            refine sq_r (ry_lenH rfl) ?_
            refine sq_r (ry_int rfl rfl rfl) ?_
            refine sq_nil ?_
            refine ex_then ?_
            refine cw_cond rfl (fun h7 => ?_) (fun h7 => ?_)
            · try simp only [Bool.and_eq_true, Bool.or_eq_true, Bool.and_eq_false_iff, Bool.or_eq_false_iff, Bool.not_eq_true', Bool.not_eq_false', decide_eq_true_eq, decide_eq_false_iff_not, Bool.not_eq_true, Bool.not_eq_false] at h7
              obtain ⟨y, hy⟩ := get_some (xs := x158.1.xs) (i := j) (by omega)
              have mby : Mb y _ := ⟨List.mem_of_getElem? hy⟩
              have yl : gval y ∈ gvs x158.1.xs := List.mem_map_of_mem (List.mem_of_getElem? hy)
              have r1 : pickE (gvs x158.1.xs) y.num h.toNat = 0 := (pick_mem ga158 yl h.toNat).1
              have r2 : pickH (gvs x158.1.xs) y.num h.toNat ≠ q := pick_lost ga158 (by rw [gv158]; exact o3) yl h.toNat
              have r3 : ¬ ((pickH (gvs x158.1.xs) y.num h.toNat).toNat : Int) = (q.toNat : Int) := fun e => r2 (UInt16.toNat_inj.1 (by omega))
              refine cw_skip ?_
              refine ex_then ?_
              refine cw_seq ?_
              refine cw_block ?_
              refine cw_seq ?_
              refine cw_region ?_
              refine sq_r (ry_move rfl) ?_
              refine sq_r (ry_move rfl) ?_
              refine sq_r (ry_move rfl) ?_
              refine sq_r (ry_idxH rfl rfl j rfl (by omega)) ?_
              refine sq_r (ry_field rfl rfl) ?_
              refine sq_r (ry_elemcH (j := 0) rfl j hy rfl (by decide)) ?_
              refine sq_r (ry_move rfl) ?_
              refine sq_y (yl_callC rfl trivial) ?_
              refine sq_r (ry_move rfl) ?_
              refine sq_r (ry_extract (v := .int .u16 ((pickH (gvs x158.1.xs) y.num h.toNat).toNat : Nat)) rfl rfl) ?_
              refine sq_r (ry_extract (v := .int .i64 (pickE (gvs x158.1.xs) y.num h.toNat)) rfl rfl) ?_
              refine sq_r (ry_assign rfl) ?_
              refine sq_r (ry_assign rfl) ?_
              refine sq_nil ?_
              refine ex_then ?_
              refine cw_seq ?_
              refine cw_region ?_
              refine sq_r (ry_move rfl) ?_
              refine sq_r (ry_int rfl rfl rfl) ?_
              refine sq_r (ry_move rfl) ?_
              refine sq_gf rfl rfl rfl (fun hg => (Ry.yl (ry_move rfl))) ?_
              refine sq_gf rfl rfl rfl (fun hg => (Ry.yl (ry_move rfl))) ?_
              refine sq_gf rfl rfl rfl (fun hg => (Ry.yl (ry_int (ev_c hg rfl) (ev_c hg rfl) rfl))) ?_
              refine sq_r (ry_or rfl rfl rfl) ?_
              refine sq_nil ?_
              refine ex_then ?_
              refine cw_cond rfl (fun h8 => ?_) (fun h8 => ?_)
              · exfalso; simp only [r1, r3] at h8; simp at h8
              · try simp only [Bool.and_eq_true, Bool.or_eq_true, Bool.and_eq_false_iff, Bool.or_eq_false_iff, Bool.not_eq_true', Bool.not_eq_false', decide_eq_true_eq, decide_eq_false_iff_not, Bool.not_eq_true, Bool.not_eq_false] at h8
                refine cw_skip ?_
                refine ex_block ?_
                refine ex_then ?_
                refine cw_region ?_
                refine sq_r (ry_move rfl) ?_
                refine sq_r (ry_add rfl rfl (by omega)) ?_
                refine sq_r (ry_assign rfl) ?_
                refine sq_nil ?_
                exact ex_again (x := (j)) (j + 1) (by first | omega | (simp only []; omega)) (by first | omega | (simp only []; omega)) (Sub.cons rfl (Sub.cons rfl (Sub.cons rfl (Sub.cons rfl (Sub.cons rfl (Sub.nil _)))))) (fun w hw => Keep.mem hw)
            · try simp only [Bool.and_eq_true, Bool.or_eq_true, Bool.and_eq_false_iff, Bool.or_eq_false_iff, Bool.not_eq_true', Bool.not_eq_false', decide_eq_true_eq, decide_eq_false_iff_not, Bool.not_eq_true, Bool.not_eq_false] at h7
              refine cw_exit ?_
              refine ex_pass_exit ?_
              refine ex_pass_exit ?_
              refine ex_block_hit ?_
              refine ex_then ?_
              refine cw_seq ?_
              refine cw_region ?_
              refine sq_r (ry_move rfl) ?_
              refine sq_y (yl_callC rfl trivial) ?_
              refine sq_r (ry_move rfl) ?_
              refine sq_gt rfl rfl rfl (fun hg => (Ry.yl (ry_move rfl))) ?_
              refine sq_gt rfl rfl rfl (fun hg => (Ry.yl (ry_lenH (ev_c hg rfl)))) ?_
              refine sq_gt rfl rfl rfl (fun hg => (Ry.yl (ry_move rfl))) ?_
              refine sq_gt rfl rfl rfl (fun hg => (Ry.yl (ry_lenH (ev_c hg rfl)))) ?_
              refine sq_gt rfl rfl rfl (fun hg => (Ry.yl (ry_int (ev_c hg rfl) (ev_c hg rfl) rfl))) ?_
              refine sq_r (ry_and rfl rfl rfl) ?_
              refine sq_r (ry_assign rfl) ?_
              refine sq_nil ?_
              refine ex_then ?_
              refine cw_ret ?_
              refine ex_ret (.inl rfl) (res_1 rfl (rv_tmp rfl)) (fun w1 hw => ?_)
              exact ⟨congrArg (fun b => Ending.returned (Value.bool b)) ((by simp [ga158]; omega)), Keep.mem hw⟩

end Go.Proofs.Ytajhlgdapiihgaa

