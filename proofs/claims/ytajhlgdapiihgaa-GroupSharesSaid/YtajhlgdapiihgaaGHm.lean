/- The law GroupShares: walked. -/
import Derived.Test.YtajhlgdapiihgaaMo

set_option linter.unusedSimpArgs false
set_option linter.unusedVariables false
namespace Go.Proofs.Ytajhlgdapiihgaa
open Go.Eng Go.Kb
set_option maxRecDepth 100000 in
instance : ZeroT Try.prog 55 (.agg (acells big fun _ => 0)) := ⟨zeroChk_eq (by kernel_rfl)⟩
set_option maxRecDepth 20000 in
theorem groupShares_c (w : World) (g : Gp) (f : UInt32) (hg : Deep.good (hp w) g) : Calls Try.prog 8 #[.agg (gpcells g), .int .u32 (f.toNat : Nat)] w fun e w' => e = .returned (.bool true) ∧ Mem w [] w' := by
  have ghg : GvD w g := ⟨hg⟩
  have hfl := f.toNat_lt
  refine calls_of (args := [_, _]) Try.func8 rfl Try.ntmps8 rfl ?_
  change Cw _ _ _ _ _ [(0, .agg (gpcells g)), (1, .int .u32 (f.toNat : Nat))] []
  refine cw_seq ?_
  refine cw_region ?_
  refine sq_boxA rfl fun b2 => ?_
  refine sq_r (ry_assign rfl) ?_
  refine sq_nil ?_
  refine ex_then ?_
  refine cw_seq ?_
  refine cw_seq ?_
  refine cw_region ?_
  refine sq_y (yl_callC rfl trivial) ?_
  refine sq_r (ry_not rfl) ?_
  refine sq_nil ?_
  refine ex_then ?_
  refine cw_cond rfl (fun h0 => ?_) (fun h0 => ?_)
  · exfalso; simp at h0
  · try simp only [Bool.and_eq_true, Bool.or_eq_true, Bool.and_eq_false_iff, Bool.or_eq_false_iff, Bool.not_eq_true', Bool.not_eq_false', decide_eq_true_eq, decide_eq_false_iff_not, Bool.not_eq_true, Bool.not_eq_false] at h0
    refine cw_skip ?_
    refine ex_then ?_
    refine cw_seq ?_
    refine cw_seq ?_
    refine cw_region ?_
    refine sq_r (ry_field (o' := 1) rfl rfl) ?_
    refine sq_r (ry_cellc rfl) ?_
    refine sq_r (ry_lenH rfl) ?_
    refine sq_r (ry_int rfl rfl rfl) ?_
    refine sq_r (ry_move rfl) ?_
    refine sq_gf rfl rfl rfl (fun hg => (Ry.yl (ry_whole rfl))) ?_
    refine sq_gf rfl rfl rfl (fun hg => yl_callC (evl_cons (ev_c hg rfl) evl_nil) trivial) ?_
    refine sq_gf rfl rfl rfl (fun hg => (Ry.yl (ry_not (ev_c hg rfl)))) ?_
    refine sq_r (ry_or rfl rfl rfl) ?_
    refine sq_nil ?_
    refine ex_then ?_
    refine cw_cond rfl (fun h1 => ?_) (fun h1 => ?_)
    · try simp only [Bool.and_eq_true, Bool.or_eq_true, Bool.and_eq_false_iff, Bool.or_eq_false_iff, Bool.not_eq_true', Bool.not_eq_false', decide_eq_true_eq, decide_eq_false_iff_not, Bool.not_eq_true, Bool.not_eq_false] at h1
      refine cw_seq ?_
      refine cw_region ?_
      refine sq_r (ry_assign rfl) ?_
      refine sq_nil ?_
      refine ex_then ?_
      refine cw_ret ?_
      refine ex_pass_ret ?_
      refine ex_ret (.inl rfl) (res_1 rfl (rv_tmp rfl)) (fun w1 hw => ?_)
      exact ⟨congrArg (fun b => Ending.returned (Value.bool b)) (rfl), Keep.mem hw⟩
    · try simp only [Bool.and_eq_true, Bool.or_eq_true, Bool.and_eq_false_iff, Bool.or_eq_false_iff, Bool.not_eq_true', Bool.not_eq_false', decide_eq_true_eq, decide_eq_false_iff_not, Bool.not_eq_true, Bool.not_eq_false] at h1
      have hgo : gok g.ms.xs = true := by simpa using h1.2
      obtain ⟨k1, k2, k3⟩ := gwt_ok hgo
      obtain ⟨q1, q2, q3, q4⟩ := gok_iff.1 hgo
      refine cw_skip ?_
      refine ex_then ?_
      refine cw_seq ?_
      refine cw_region ?_
      refine sq_r (ry_whole rfl) ?_
      refine sq_y (yl_callC rfl trivial) ?_
      refine sq_r (ry_assign rfl) ?_
      refine sq_nil ?_
      refine ex_then ?_
      refine cw_seq ?_
      refine cw_seq ?_
      refine cw_region ?_
      refine sq_r (ry_move rfl) ?_
      refine sq_r (ry_move rfl) ?_
      refine sq_r (ry_convi rfl (by omega) (by simp only [nb]; omega)) ?_
      refine sq_r (Ry.to (v' := .int .u32 ((4294967295 - gwt g.ms.xs : Int))) (ry_int rfl rfl rfl) (by rw [show (4294967295 : Int) - gwt g.ms.xs = ((4294967295 - (gwt g.ms.xs).toNat : Nat) : Int) by omega, wrap_nat (k := .u32) (by simp only [nb]; omega)])) ?_
      refine sq_r (ry_int rfl rfl rfl) ?_
      refine sq_nil ?_
      refine ex_then ?_
      refine cw_cond rfl (fun h2 => ?_) (fun h2 => ?_)
      · try simp only [Bool.and_eq_true, Bool.or_eq_true, Bool.and_eq_false_iff, Bool.or_eq_false_iff, Bool.not_eq_true', Bool.not_eq_false', decide_eq_true_eq, decide_eq_false_iff_not, Bool.not_eq_true, Bool.not_eq_false] at h2
        refine cw_seq ?_
        refine cw_region ?_
        refine sq_r (ry_assign rfl) ?_
        refine sq_nil ?_
        refine ex_then ?_
        refine cw_ret ?_
        refine ex_pass_ret ?_
        refine ex_ret (.inl rfl) (res_1 rfl (rv_tmp rfl)) (fun w1 hw => ?_)
        exact ⟨congrArg (fun b => Ending.returned (Value.bool b)) (rfl), Keep.mem hw⟩
      · try simp only [Bool.and_eq_true, Bool.or_eq_true, Bool.and_eq_false_iff, Bool.or_eq_false_iff, Bool.not_eq_true', Bool.not_eq_false', decide_eq_true_eq, decide_eq_false_iff_not, Bool.not_eq_true, Bool.not_eq_false] at h2
        refine cw_skip ?_
        refine ex_then ?_
        refine cw_seq ?_
        refine cw_region ?_
        refine sq_allocA fun b6 => ?_
        refine sq_nil ?_
        refine ex_then ?_
        refine cw_seq ?_
        refine cw_seq ?_
        refine cw_region ?_
        refine sq_r (ry_assign rfl) ?_
        refine sq_nil ?_
        refine ex_then ?_
        refine cw_block ?_
        refine cw_loop (X := Nat) (fun zz => [(7, .int .i64 (zz : Nat)), (1, .int .u32 (f.toNat : Nat)), (2, .pointer (some ⟨b2, 0, none⟩)), (5, .int .i64 (gwt g.ms.xs)), (6, .pointer (some ⟨b6, 0, none⟩))]) (fun zz => [blk b6 (acells big (got zz (fun zz => pickM g.ms.xs (((f.toNat + zz) % (wsum g.ms.xs).toNat : Nat) : Int)))) 55, blk b2 (gpcells g) 51]) (fun zz => (zz : Int) ≤ wsum g.ms.xs) (fun zz => (wsum g.ms.xs).toNat - zz) 0 (by first | omega | (simp only []; omega)) (Sub.cons rfl (Sub.cons rfl (Sub.cons rfl (Sub.cons rfl (Sub.cons rfl (Sub.nil _)))))) (fun w hw => by rw [got_zero]; exact Keep.mem hw) ?_
        rintro i hi1
        refine cw_seq ?_
        refine cw_seq ?_
        refine cw_region ?_
        refine sq_r (ry_move rfl) ?_
        refine sq_r (ry_move rfl) ?_
        refine sq_r (ry_int rfl rfl rfl) ?_
        refine sq_nil ?_
        refine ex_then ?_
        refine cw_cond rfl (fun h3 => ?_) (fun h3 => ?_)
        · try simp only [Bool.and_eq_true, Bool.or_eq_true, Bool.and_eq_false_iff, Bool.or_eq_false_iff, Bool.not_eq_true', Bool.not_eq_false', decide_eq_true_eq, decide_eq_false_iff_not, Bool.not_eq_true, Bool.not_eq_false] at h3
          refine cw_skip ?_
          refine ex_then ?_
          refine cw_seq ?_
          refine cw_block ?_
          refine cw_seq ?_
          refine cw_region ?_
          refine sq_r (ry_whole rfl) ?_
          refine sq_buildSlice (enc := gpcells) [g] (vals := [.agg (gpcells g)]) rfl rfl rfl (by decide) (by decide) fun b37 => ?_
          refine sq_nameD (τ := Gp) (xs := [g]) fun a37 h37 g37 => ?_
          obtain ⟨e1, e2⟩ := pick_one hgo (f.toNat + i)
          have hU : (UInt32.ofNat (f.toNat + i)).toNat = f.toNat + i := by simp; omega
          have ax : a37.xs = [g] := by rw [h37]
          have eE : pickE (gvs a37.xs) g.num (UInt32.ofNat (f.toNat + i)).toNat = 0 := by rw [ax, hU]; exact e1
          have eH : (fun i => pickM g.ms.xs (((f.toNat + i) % (wsum g.ms.xs).toNat : Nat) : Int)) i = some (pickH (gvs a37.xs) g.num (UInt32.ofNat (f.toNat + i)).toNat) := by rw [ax, hU, e2]; exact pickG_some hgo _
          obtain ⟨hh, hhe⟩ : ∃ z, z = (pickH (gvs a37.xs) g.num (UInt32.ofNat (f.toNat + i)).toNat) := ⟨_, rfl⟩
          rw [← hhe] at eH
          have gbd := got_bd i (fun i => pickM g.ms.xs (((f.toNat + i) % (wsum g.ms.xs).toNat : Nat) : Int)) hh.toNat
          refine sq_r (ry_field (o' := 0) rfl rfl) ?_
          refine sq_r (ry_cellc rfl) ?_
          refine sq_r (ry_move rfl) ?_
          refine sq_r (ry_move rfl) ?_
          refine sq_r (ry_convn rfl (by simp only [nb]; omega)) ?_
          refine sq_r (Ry.to (v' := .int .u32 ((UInt32.ofNat (f.toNat + i)).toNat : Int)) (ry_addn (p := f.toNat) (q := i) rfl rfl rfl rfl (by simp only [nb]; omega)) (by rw [hU])) ?_
          refine sq_y (yl_callC rfl trivial) ?_
          refine sq_r (ry_move rfl) ?_
          refine sq_r (ry_extract (v := .int .u16 ((pickH (gvs a37.xs) g.num (UInt32.ofNat (f.toNat + i)).toNat).toNat : Nat)) rfl rfl) ?_
          refine sq_r (ry_extract (v := .int .i64 (pickE (gvs a37.xs) g.num (UInt32.ofNat (f.toNat + i)).toNat)) rfl rfl) ?_
          refine sq_r (ry_assign rfl) ?_
          refine sq_r (ry_assign rfl) ?_
          refine sq_nil ?_
          refine ex_then ?_
          refine cw_seq ?_
          refine cw_seq ?_
          refine cw_region ?_
          refine sq_r (ry_move rfl) ?_
          refine sq_r (ry_int rfl rfl rfl) ?_
          refine sq_nil ?_
          refine ex_then ?_
          refine cw_cond rfl (fun h4 => ?_) (fun h4 => ?_)
          · exfalso; rw [eE] at h4; simp at h4
          · try simp only [Bool.and_eq_true, Bool.or_eq_true, Bool.and_eq_false_iff, Bool.or_eq_false_iff, Bool.not_eq_true', Bool.not_eq_false', decide_eq_true_eq, decide_eq_false_iff_not, Bool.not_eq_true, Bool.not_eq_false] at h4
            refine cw_skip ?_
            refine ex_then ?_
            refine cw_region ?_
            refine sq_r (Ry.to (v' := .int .u16 (hh.toNat : Int)) (ry_move rfl) (by rw [hhe])) ?_
            refine sq_r (Ry.to (v' := .pointer (some ⟨b6, hh.toNat, none⟩)) (ry_idxA1 rfl rfl (by omega) (by have := u16_big hh; unfold big at this; omega)) (by simp)) ?_
            refine sq_r (ry_cell rfl (acells_get _ (u16_big hh))) ?_
            refine sq_r (ry_add rfl rfl (by omega)) ?_
            refine sq_r (Ry.to (v' := .pointer (some ⟨b6, hh.toNat, none⟩)) (ry_idxA1 rfl rfl (by omega) (by have := u16_big hh; unfold big at this; omega)) (by simp)) ?_
            refine sq_store (cs' := acells big (bump (got i (fun i => pickM g.ms.xs (((f.toNat + i) % (wsum g.ms.xs).toNat : Nat) : Int))) hh.toNat)) rfl rfl (by rw [acells_size]; exact u16_big _) rfl (acells_set (u16_big _)) ?_
            refine sq_nil ?_
            refine ex_block ?_
            refine ex_then ?_
            refine cw_region ?_
            refine sq_r (ry_move rfl) ?_
            refine sq_r (ry_add rfl rfl (by omega)) ?_
            refine sq_r (ry_assign rfl) ?_
            refine sq_nil ?_
            exact ex_again (x := (i)) (i + 1) (by first | omega | (simp only []; omega)) (by first | omega | (simp only []; omega)) (Sub.cons rfl (Sub.cons rfl (Sub.cons rfl (Sub.cons rfl (Sub.cons rfl (Sub.nil _)))))) (fun w hw => by rw [got_succ eH]; exact Keep.mem hw)
        · try simp only [Bool.and_eq_true, Bool.or_eq_true, Bool.and_eq_false_iff, Bool.or_eq_false_iff, Bool.not_eq_true', Bool.not_eq_false', decide_eq_true_eq, decide_eq_false_iff_not, Bool.not_eq_true, Bool.not_eq_false] at h3
          obtain ⟨n, hn⟩ : ∃ n, n = i := ⟨_, rfl⟩
          have hiT : i = (wsum g.ms.xs).toNat := by omega
          refine cw_exit ?_
          refine ex_pass_exit ?_
          refine ex_pass_exit ?_
          refine ex_block_hit ?_
          refine ex_then ?_
          refine cw_seq ?_
          refine cw_region ?_
          refine sq_r (ry_assign rfl) ?_
          refine sq_nil ?_
          refine ex_then ?_
          refine cw_seq ?_
          refine cw_seq ?_
          refine cw_region ?_
          refine sq_r (ry_assign rfl) ?_
          refine sq_nil ?_
          refine ex_then ?_
          refine cw_block ?_
          refine cw_loop (X := Nat) (fun zz => [(11, .int .i64 (zz : Nat)), (10, .int .i64 (wsum (g.ms.xs.take zz))), (2, .pointer (some ⟨b2, 0, none⟩)), (5, .int .i64 (gwt g.ms.xs)), (6, .pointer (some ⟨b6, 0, none⟩))]) (fun zz => [blk b6 (acells big (got i (fun i => pickM g.ms.xs (((f.toNat + i) % (wsum g.ms.xs).toNat : Nat) : Int)))) 55, blk b2 (gpcells g) 51]) (fun zz => zz ≤ g.ms.xs.length) (fun zz => g.ms.xs.length - zz) 0 (Nat.zero_le _) (Sub.cons rfl (Sub.cons rfl (Sub.cons rfl (Sub.cons rfl (Sub.cons rfl (Sub.nil _)))))) (fun w hw => Keep.mem hw) ?_
          rintro k hk1
          refine cw_seq ?_
          refine cw_seq ?_
          refine cw_region ?_
          refine sq_r (ry_move rfl) ?_
          refine sq_r (ry_field (o' := 1) rfl rfl) ?_
          refine sq_r (ry_cellc rfl) ?_
          refine sq_r (ry_lenH rfl) ?_
          refine sq_r (ry_int rfl rfl rfl) ?_
          refine sq_nil ?_
          refine ex_then ?_
          refine cw_cond rfl (fun h5 => ?_) (fun h5 => ?_)
          · try simp only [Bool.and_eq_true, Bool.or_eq_true, Bool.and_eq_false_iff, Bool.or_eq_false_iff, Bool.not_eq_true', Bool.not_eq_false', decide_eq_true_eq, decide_eq_false_iff_not, Bool.not_eq_true, Bool.not_eq_false] at h5
            obtain ⟨m, hm⟩ := get_some (xs := g.ms.xs) (i := k) (by omega)
            have hmb := q3 m (List.mem_of_getElem? hm)
            have hsh := share q3 q4 m (List.mem_of_getElem? hm)
            have hgot : got i (fun i => pickM g.ms.xs (((f.toNat + i) % (wsum g.ms.xs).toNat : Nat) : Int)) m.hop.toNat = m.w := by
              rw [got_hop, hiT, cntN_rot (wsum g.ms.xs).toNat (fun r => pickM g.ms.xs (r : Int) == some m.hop), hsh]; omega
            have hsb := wsum_bd (ms := g.ms.xs.take k) (fun x hx => q3 x (List.mem_of_mem_take hx))
            have hsl : (g.ms.xs.take k).length = k := by rw [List.length_take]; omega
            have ca : ∀ f : Nat → Int, CellAt (acells big f) (Int.toNat (m.hop.toNat : Int)) (.int .i64 (f m.hop.toNat)) := fun f => ⟨by rw [Int.toNat_natCast]; exact acells_get f (u16_big m.hop)⟩
            have hml := m.hop.toNat_lt
            refine cw_skip ?_
            refine ex_then ?_
            refine cw_seq ?_
            refine cw_block ?_
            refine cw_seq ?_
            refine cw_seq ?_
            refine cw_quiet (by kernel_rfl) (by kernel_rfl) ?_
            refine qt_r (ry_field (o' := 1) rfl rfl) ?_
            refine qt_r (ry_cellc rfl) ?_
            refine qt_r (ry_move rfl) ?_
            refine qt_r (ry_idxH rfl rfl k rfl (by omega)) ?_
            refine qt_r (ry_field rfl rfl) ?_
            refine qt_r (ry_elemcH (j := 0) rfl k hm rfl (by decide)) ?_
            refine qt_r (ry_idxA1 rfl rfl (by omega) (by omega)) ?_
            refine qt_r (ry_cellc rfl) ?_
            refine qt_r (ry_field (o' := 1) rfl rfl) ?_
            refine qt_r (ry_cellc rfl) ?_
            refine qt_r (ry_move rfl) ?_
            refine qt_r (ry_idxH rfl rfl k rfl (by omega)) ?_
            refine qt_r (ry_field rfl rfl) ?_
            refine qt_r (ry_elemcH (j := 1) rfl k hm rfl (by decide)) ?_
            refine qt_r (ry_int rfl rfl rfl) ?_
            refine qt_nil ?_
            refine ex_then ?_
            refine cw_cond rfl (fun h6 => ?_) (fun h6 => ?_)
            · exfalso; rw [hgot] at h6; simp at h6
            · try simp only [Bool.and_eq_true, Bool.or_eq_true, Bool.and_eq_false_iff, Bool.or_eq_false_iff, Bool.not_eq_true', Bool.not_eq_false', decide_eq_true_eq, decide_eq_false_iff_not, Bool.not_eq_true, Bool.not_eq_false] at h6
              refine cw_skip ?_
              refine ex_then ?_
              refine cw_region ?_
              refine sq_r (ry_move rfl) ?_
              refine sq_r (ry_field (o' := 1) rfl rfl) ?_
              refine sq_r (ry_cellc rfl) ?_
              refine sq_r (ry_move rfl) ?_
              refine sq_r (ry_idxH rfl rfl k rfl (by omega)) ?_
              refine sq_r (ry_field rfl rfl) ?_
              refine sq_r (ry_elemcH (j := 1) rfl k hm rfl (by decide)) ?_
              refine sq_r (ry_add rfl rfl (by omega)) ?_
              refine sq_r (ry_assign rfl) ?_
              refine sq_nil ?_
              refine ex_block ?_
              refine ex_then ?_
              refine cw_region ?_
              refine sq_r (ry_move rfl) ?_
              refine sq_r (ry_add rfl rfl (by omega)) ?_
              refine sq_r (ry_assign rfl) ?_
              refine sq_nil ?_
              exact ex_again (x := (k)) (k + 1) (by first | omega | (simp only []; omega)) (by first | omega | (simp only []; omega)) (Sub.cons rfl (Sub.cons (look_eq rfl (by rw [wsum_snoc hm])) (Sub.cons rfl (Sub.cons rfl (Sub.cons rfl (Sub.nil _)))))) (fun w hw => Keep.mem hw)
          · try simp only [Bool.and_eq_true, Bool.or_eq_true, Bool.and_eq_false_iff, Bool.or_eq_false_iff, Bool.not_eq_true', Bool.not_eq_false', decide_eq_true_eq, decide_eq_false_iff_not, Bool.not_eq_true, Bool.not_eq_false] at h5
            obtain rfl : k = g.ms.xs.length := by omega
            refine cw_exit ?_
            refine ex_pass_exit ?_
            refine ex_pass_exit ?_
            refine ex_block_hit ?_
            refine ex_then ?_
            refine cw_seq ?_
            refine cw_region ?_
            refine sq_r (ry_move rfl) ?_
            refine sq_r (ry_move rfl) ?_
            refine sq_r (ry_int rfl rfl rfl) ?_
            refine sq_r (ry_assign rfl) ?_
            refine sq_nil ?_
            refine ex_then ?_
            refine cw_ret ?_
            refine ex_ret (.inl rfl) (res_1 rfl (rv_tmp rfl)) (fun w1 hw => ?_)
            exact ⟨congrArg (fun b => Ending.returned (Value.bool b)) ((by rw [List.take_length, k1]; simp)), Keep.mem hw⟩

end Go.Proofs.Ytajhlgdapiihgaa

