/- A writer: what is told of its blocks. -/
import Derived.Test.YtaipiecplldinaaGreatC4
import Derived.Test.YtaipiecplldinaaGreatC3
import Derived.Test.YtaipiecplldinaaGreatC2
set_option maxRecDepth 20000

set_option linter.unusedSimpArgs false
set_option linter.unusedVariables false
namespace Go.Proofs.YtaipiecplldinaaGreat
open Go.Eng Go.Kb
open Go.RowKit
theorem wbad_c (w : World) (xb : Nat) (xc : Cp) (xa : Sl Int) (xg : UInt64) (xl : Int) (xy : Bool) (hxb : w.heap[xb]? = Option.some (.cells (wtcells (⟨⟨xc, xa, xg, xl⟩, xy⟩ : Wtr)) 141 (0, 0))) (hx0 : Deep.good (hp w) xc) : Calls Tryz.prog 87 #[.pointer (some ⟨xb, 0, none⟩)] w fun e w' => e = .returned (.int .i64 (badsF (cv xc) : Nat)) ∧ Mem w [] w' := by
 have ghxb : OldB w xb (wtcells (⟨⟨xc, xa, xg, xl⟩, xy⟩ : Wtr)) 141 := ⟨hxb⟩
 have ghx0 : GvD w xc := ⟨hx0⟩
 have hbd := hx0.1.1.bd
 have hbl : (cv xc).blocks.length = xc.blocks.xs.length := bvs_length _
 refine calls_of (args := [_]) Tryz.func87 rfl Tryz.ntmps87 rfl ?_
 change Cw _ _ _ _ _ [(0, .pointer (some ⟨xb, 0, none⟩))] []
 refine cw_seq ?_
 refine cw_region ?_
 refine sq_r (ry_assign rfl) ?_
 refine sq_nil ?_
 refine ex_then ?_
 refine cw_seq ?_
 refine cw_region ?_
 refine sq_r (ry_assign rfl) ?_
 refine sq_nil ?_
 refine ex_then ?_
 refine cw_seq ?_
 refine cw_seq ?_
 refine cw_region ?_
 refine sq_r (ry_move rfl) ?_
 refine sq_r (ry_nilp rfl) ?_
 refine sq_r (ry_field (o' := 0) rfl rfl) ?_
 refine sq_r (ry_field (o' := 0) rfl rfl) ?_
 refine sq_r (ry_field (o' := 2) rfl rfl) ?_
 refine sq_r (Ry.to (v' := xc.blocks.sv.val) (ry_cellP rfl) rfl) ?_
 refine sq_r (ry_lenH rfl) ?_
 refine sq_r (ry_move rfl) ?_
 refine sq_nil ?_
 refine ex_then ?_
 refine cw_block ?_
 refine cw_loop (X := Nat) (fun zz => [(13, .int .i64 (zz : Nat)), (3, .int .i64 ((((bvs xc.blocks.xs).take zz).filter fun b => b.bad).length : Nat)), (11, xc.blocks.sv.val), (12, .int .i64 (xc.blocks.xs.length : Nat))]) (fun zz => []) (fun zz => zz ≤ xc.blocks.xs.length) (fun zz => xc.blocks.xs.length - zz) 0 (Nat.zero_le _) (Sub.cons rfl (Sub.cons rfl (Sub.cons rfl (Sub.cons rfl (Sub.nil _))))) (fun w hw => Keep.mem hw) ?_
 rintro i hi1
 refine cw_seq ?_
 refine cw_region ?_
 refine sq_r (ry_int rfl rfl rfl) ?_
 refine sq_nil ?_
 refine ex_then ?_
 refine cw_seq ?_
 refine cw_cond rfl (fun h0 => ?_) (fun h0 => ?_)
 ·
  try simp only [Z0, Z1, Z2, Z3, Z4, Z5, Z6, Z7, Z8, Z9] at h0
  obtain ⟨B, hB⟩ := get_some (xs := xc.blocks.xs) (i := i) (by omega)
  have mbB : Mb B xc.blocks := ⟨List.mem_of_getElem? hB⟩
  have hsn := bads_snoc (bvs_get hB)
  have hle : (((bvs xc.blocks.xs).take i).filter fun b => b.bad).length ≤ i := Nat.le_trans (List.length_filter_le _ _) (by rw [List.length_take]; omega)
  refine cw_skip ?_
  refine ex_then ?_
  refine cw_seq ?_
  refine cw_block ?_
  refine cw_seq ?_
  refine cw_region ?_
  refine sq_r (ry_idxH rfl rfl i rfl (by omega)) ?_
  refine sq_r (ry_elemH rfl i hB rfl) ?_
  have mb16 : Mb B xc.blocks := ⟨List.mem_of_getElem? hB⟩
  refine sq_allocA fun b5 => ?_
  refine sq_storeW rfl rfl ?_
  refine sq_nil ?_
  refine ex_then ?_
  refine cw_seq ?_
  refine cw_region ?_
  refine sq_r (ry_field (o' := 3) rfl rfl) ?_
  refine sq_r (ry_cellc rfl) ?_
  refine sq_nil ?_
  refine ex_then ?_
  refine cw_cond rfl (fun h1 => ?_) (fun h1 => ?_)
  ·
   try simp only [Z0, Z1, Z2, Z3, Z4, Z5, Z6, Z7, Z8, Z9] at h1
   rw [if_pos (show (bv B).bad = true from h1)] at hsn
   refine cw_region ?_
   refine sq_r (ry_move rfl) ?_
   refine sq_r (ry_add rfl rfl (by omega)) ?_
   refine sq_r (ry_assign rfl) ?_
   refine sq_nil ?_
   refine ex_block ?_
   refine ex_then ?_
   refine cw_region ?_
   refine sq_r (ry_add rfl rfl (by omega)) ?_
   refine sq_r (ry_move rfl) ?_
   refine sq_nil ?_
   exact ex_again (x := (i)) (i + 1) (by first | omega | (simp only []; omega)) (by first | omega | (simp only []; omega)) (Sub.cons rfl (Sub.cons (look_eq rfl (by rw [hsn]; rfl)) (Sub.cons rfl (Sub.cons rfl (Sub.nil _))))) (fun w hw => Keep.mem hw)
  ·
   try simp only [Z0, Z1, Z2, Z3, Z4, Z5, Z6, Z7, Z8, Z9] at h1
   rw [if_neg (show ¬ (bv B).bad = true by rw [show (bv B).bad = B.bad from rfl, h1]; simp)] at hsn
   refine cw_skip ?_
   refine ex_block ?_
   refine ex_then ?_
   refine cw_region ?_
   refine sq_r (ry_add rfl rfl (by omega)) ?_
   refine sq_r (ry_move rfl) ?_
   refine sq_nil ?_
   exact ex_again (x := (i)) (i + 1) (by first | omega | (simp only []; omega)) (by first | omega | (simp only []; omega)) (Sub.cons rfl (Sub.cons (look_eq rfl (by rw [hsn, Nat.add_zero])) (Sub.cons rfl (Sub.cons rfl (Sub.nil _))))) (fun w hw => Keep.mem hw)
 ·
  try simp only [Z0, Z1, Z2, Z3, Z4, Z5, Z6, Z7, Z8, Z9] at h0
  obtain rfl : i = xc.blocks.xs.length := by omega
  have hz : badsF (cv xc) = (((bvs xc.blocks.xs).take xc.blocks.xs.length).filter fun b => b.bad).length := by rw [← hbl]; exact congrArg (fun l : List BV => (l.filter fun b => b.bad).length) (List.take_length).symm
  refine cw_exit ?_
  refine ex_pass_exit ?_
  refine ex_pass_exit ?_
  refine ex_block_hit ?_
  refine ex_then ?_
  refine cw_seq ?_
  refine cw_region ?_
  refine sq_r (ry_move rfl) ?_
  refine sq_r (ry_assign rfl) ?_
  refine sq_nil ?_
  refine ex_then ?_
  refine cw_ret ?_
  refine ex_ret (.inl rfl) (res_1 rfl (rv_tmp rfl)) (fun w1 hw => ?_)
  exact ⟨congrArg (fun b => Ending.returned (Value.int .i64 b)) (by rw [hz]), Keep.mem hw⟩
instance wbad_i {w0 : World} {L : List Ent} {xb : Nat} {xc : Cp} {xa : Sl Int} {xg : UInt64} {xl : Int} {xy : Bool} [hxb : Blk w0 L xb (wtcells (⟨⟨xc, xa, xg, xl⟩, xy⟩ : Wtr)) 141] [hx0 : HdD w0 L xc] : FnQ Tryz.prog 87 w0 L [.pointer (some ⟨xb, 0, none⟩)] (.int .i64 (badsF (cv xc) : Nat)) (True) := ⟨fun hp w hw => wbad_c w xb xc xa xg xl xy (hxb.h w hw) (hx0.h w hw)⟩
theorem wfreeC_c (w : World) (xb : Nat) (xc : Cp) (xa : Sl Int) (xg : UInt64) (xl : Int) (xy : Bool) (b : Int) (hxb : w.heap[xb]? = Option.some (.cells (wtcells (⟨⟨xc, xa, xg, xl⟩, xy⟩ : Wtr)) 141 (0, 0))) (hx0 : Deep.good (hp w) xc) (hpre : chipOk (cv xc) = true ∧ 0 ≤ b ∧ b < (cv xc).blocks.length) : Calls Tryz.prog 124 #[.pointer (some ⟨xb, 0, none⟩), .int .i64 b] w fun e w' => e = .returned (.int .i64 (freeF (cv xc) b)) ∧ Mem w [] w' := by
 have ghxb : OldB w xb (wtcells (⟨⟨xc, xa, xg, xl⟩, xy⟩ : Wtr)) 141 := ⟨hxb⟩
 have ghx0 : GvD w xc := ⟨hx0⟩
 obtain ⟨hk, hb0, hb1⟩ := hpre
 have hsm : smallC xc := small_of hk
 have hbl : (cv xc).blocks.length = xc.blocks.xs.length := bvs_length _
 obtain ⟨B, hB⟩ := get_some (xs := xc.blocks.xs) (i := b.toNat) (by omega)
 have mbB : Mb B xc.blocks := ⟨List.mem_of_getElem? hB⟩
 have hBv := blk_of hB
 have hBo := bkOk_iff.1 ((chipOk_iff.1 hk).2.2.2.2 (bv B) (List.mem_of_getElem? (bvs_get hB)))
 have hso := soundF_iff.1 (chipOk_iff.1 hk).1
 have hBu : (blkAt (cv xc) b).used = B.used := by rw [hBv]; rfl
 simp only [bv, cv] at hBo hso
 refine calls_of (args := [_, _]) Tryz.func124 rfl Tryz.ntmps124 rfl ?_
 change Cw _ _ _ _ _ [(0, .pointer (some ⟨xb, 0, none⟩)), (1, .int .i64 b)] []
 refine cw_seq ?_
 refine cw_region ?_
 refine sq_r (ry_assign rfl) ?_
 refine sq_nil ?_
 refine ex_then ?_
 refine cw_seq ?_
 refine cw_region ?_
 refine sq_r (ry_move rfl) ?_
 refine sq_r (ry_nilp rfl) ?_
 refine sq_r (ry_field (o' := 0) rfl rfl) ?_
 refine sq_r (ry_field (o' := 0) rfl rfl) ?_
 refine sq_r (ry_field (o' := 2) rfl rfl) ?_
 refine sq_r (Ry.to (v' := xc.blocks.sv.val) (ry_cellP rfl) rfl) ?_
 refine sq_r (ry_move rfl) ?_
 refine sq_r (ry_idxH rfl rfl b.toNat (by omega) (by omega)) ?_
 refine sq_r (ry_elemH rfl b.toNat hB rfl) ?_
 have mb14 : Mb B xc.blocks := ⟨List.mem_of_getElem? hB⟩
 refine sq_allocA fun b5 => ?_
 refine sq_storeW rfl rfl ?_
 refine sq_nil ?_
 refine ex_then ?_
 refine cw_seq ?_
 refine cw_seq ?_
 refine cw_region ?_
 refine sq_r (ry_field (o' := 3) rfl rfl) ?_
 refine sq_r (ry_cellc rfl) ?_
 refine sq_nil ?_
 refine ex_then ?_
 refine cw_cond rfl (fun h0 => ?_) (fun h0 => ?_)
 ·
  try simp only [Z0, Z1, Z2, Z3, Z4, Z5, Z6, Z7, Z8, Z9] at h0
  refine cw_seq ?_
  refine cw_region ?_
  refine sq_r (ry_assign rfl) ?_
  refine sq_nil ?_
  refine ex_then ?_
  refine cw_ret ?_
  refine ex_pass_ret ?_
  refine ex_ret (.inl rfl) (res_1 rfl (rv_tmp rfl)) (fun w1 hw => ?_)
  exact ⟨congrArg (fun b => Ending.returned (Value.int .i64 b)) ((by rw [freeF, hBv, if_pos (show (bv B).bad = true from h0)])), Keep.mem hw⟩
 ·
  try simp only [Z0, Z1, Z2, Z3, Z4, Z5, Z6, Z7, Z8, Z9] at h0
  refine cw_skip ?_
  refine ex_then ?_
  refine cw_seq ?_
  refine cw_quiet (by kernel_rfl) (by kernel_rfl) ?_
  refine qt_r (ry_move rfl) ?_
  refine qt_r (ry_nilp rfl) ?_
  refine qt_r (ry_field (o' := 0) rfl rfl) ?_
  refine qt_r (ry_field (o' := 0) rfl rfl) ?_
  refine qt_r (ry_field (o' := 0) rfl rfl) ?_
  refine qt_r (Ry.to (v' := .int .i64 xc.pages) (ry_cellP rfl) rfl) ?_
  refine qt_r (ry_field (o' := 1) rfl rfl) ?_
  refine qt_r (ry_cellc rfl) ?_
  refine qt_r (ry_sub rfl rfl (by omega)) ?_
  refine qt_r (ry_assign rfl) ?_
  refine qt_nil ?_
  refine ex_then ?_
  refine cw_ret ?_
  refine ex_ret (.inl rfl) (res_1 rfl (rv_tmp rfl)) (fun w1 hw => ?_)
  exact ⟨congrArg (fun b => Ending.returned (Value.int .i64 b)) ((by rw [freeF, hBv, if_neg (show ¬ (bv B).bad = true by rw [show (bv B).bad = B.bad from rfl, h0]; simp)]; rfl)), Keep.mem hw⟩
instance wfreeC_i {w0 : World} {L : List Ent} {xb : Nat} {xc : Cp} {xa : Sl Int} {xg : UInt64} {xl : Int} {xy : Bool} {b : Int} [hxb : Blk w0 L xb (wtcells (⟨⟨xc, xa, xg, xl⟩, xy⟩ : Wtr)) 141] [hx0 : HdD w0 L xc] : FnQ Tryz.prog 124 w0 L [.pointer (some ⟨xb, 0, none⟩), .int .i64 b] (.int .i64 (freeF (cv xc) b)) (chipOk (cv xc) = true ∧ 0 ≤ b ∧ b < (cv xc).blocks.length) := ⟨fun hp w hw => wfreeC_c w xb xc xa xg xl xy b (hxb.h w hw) (hx0.h w hw) hp⟩
theorem fsettled_c (w : World) (er : Int)  : Calls Tryz.prog 172 #[.int .i64 er] w fun e w' => e = .returned (.int .i64 (settF er)) ∧ Mem w [] w' := by
 refine calls_of (args := [_]) Tryz.func172 rfl Tryz.ntmps172 rfl ?_
 change Cw _ _ _ _ _ [(0, .int .i64 er)] []
 refine cw_seq ?_
 refine cw_region ?_
 refine sq_r (ry_assign rfl) ?_
 refine sq_nil ?_
 refine ex_then ?_
 refine cw_seq ?_
 refine cw_seq ?_
 refine cw_region ?_
 refine sq_r (ry_move rfl) ?_
 refine sq_r (ry_int rfl rfl rfl) ?_
 refine sq_nil ?_
 refine ex_then ?_
 refine cw_cond rfl (fun h0 => ?_) (fun h0 => ?_)
 ·
  try simp only [Z0, Z1, Z2, Z3, Z4, Z5, Z6, Z7, Z8, Z9] at h0
  refine cw_seq ?_
  refine cw_region ?_
  refine sq_r (ry_assign rfl) ?_
  refine sq_nil ?_
  refine ex_then ?_
  refine cw_ret ?_
  refine ex_pass_ret ?_
  refine ex_ret (.inl rfl) (res_1 rfl (rv_tmp rfl)) (fun w1 hw => ?_)
  exact ⟨congrArg (fun b => Ending.returned (Value.int .i64 b)) ((by rw [settF, if_pos h0])), Keep.mem hw⟩
 ·
  try simp only [Z0, Z1, Z2, Z3, Z4, Z5, Z6, Z7, Z8, Z9] at h0
  refine cw_skip ?_
  refine ex_then ?_
  refine cw_seq ?_
  refine cw_region ?_
  refine sq_r (ry_move rfl) ?_
  refine sq_r (ry_assign rfl) ?_
  refine sq_nil ?_
  refine ex_then ?_
  refine cw_ret ?_
  refine ex_ret (.inl rfl) (res_1 rfl (rv_tmp rfl)) (fun w1 hw => ?_)
  exact ⟨congrArg (fun b => Ending.returned (Value.int .i64 b)) ((by rw [settF, if_neg h0])), Keep.mem hw⟩
instance fsettled_i {w0 : World} {L : List Ent} {er : Int}  : FnQ Tryz.prog 172 w0 L [.int .i64 er] (.int .i64 (settF er)) (True) := ⟨fun hp w hw => fsettled_c w er ⟩
theorem wfinal_c (w : World) (xb : Nat) (xc : Cp) (xa : Sl Int) (xg : UInt64) (xl : Int) (xy : Bool) (hxb : w.heap[xb]? = Option.some (.cells (wtcells (⟨⟨xc, xa, xg, xl⟩, xy⟩ : Wtr)) 141 (0, 0))) (hx0 : Deep.good (hp w) xc) (hpre : xg.toNat < 281474976710656) : Calls Tryz.prog 167 #[.pointer (some ⟨xb, 0, none⟩)] w fun e w' => e = .returned (.bool (finalF xg.toNat)) ∧ Mem w [] w' := by
 have ghxb : OldB w xb (wtcells (⟨⟨xc, xa, xg, xl⟩, xy⟩ : Wtr)) 141 := ⟨hxb⟩
 have ghx0 : GvD w xc := ⟨hx0⟩
 refine calls_of (args := [_]) Tryz.func167 rfl Tryz.ntmps167 rfl ?_
 change Cw _ _ _ _ _ [(0, .pointer (some ⟨xb, 0, none⟩))] []
 refine cw_seq ?_
 refine cw_region ?_
 refine sq_r (ry_assign rfl) ?_
 refine sq_nil ?_
 refine ex_then ?_
 refine cw_seq ?_
 refine cw_region ?_
 refine sq_r (ry_move rfl) ?_
 refine sq_r (ry_nilp rfl) ?_
 refine sq_r (ry_field (o' := 0) rfl rfl) ?_
 refine sq_r (ry_field (o' := 7) rfl rfl) ?_
 refine sq_r (Ry.to (v' := .int .u64 (xg.toNat : Nat)) (ry_cellP rfl) rfl) ?_
 refine sq_r (ry_addn (p := xg.toNat) (q := 2) rfl rfl rfl rfl (by simp only [nb]; omega)) ?_
 refine sq_r (ry_int rfl rfl rfl) ?_
 refine sq_r (ry_assign rfl) ?_
 refine sq_nil ?_
 refine ex_then ?_
 refine cw_ret ?_
 refine ex_ret (.inl rfl) (res_1 rfl (rv_tmp rfl)) (fun w1 hw => ?_)
 exact ⟨congrArg (fun b => Ending.returned (Value.bool b)) (by rw [finalF]; congr 1; simp only [eq_iff_iff]; omega), Keep.mem hw⟩
instance wfinal_i {w0 : World} {L : List Ent} {xb : Nat} {xc : Cp} {xa : Sl Int} {xg : UInt64} {xl : Int} {xy : Bool} [hxb : Blk w0 L xb (wtcells (⟨⟨xc, xa, xg, xl⟩, xy⟩ : Wtr)) 141] [hx0 : HdD w0 L xc] : FnQ Tryz.prog 167 w0 L [.pointer (some ⟨xb, 0, none⟩)] (.bool (finalF xg.toNat)) (xg.toNat < 281474976710656) := ⟨fun hp w hw => wfinal_c w xb xc xa xg xl xy (hxb.h w hw) (hx0.h w hw) hp⟩
theorem wgreatest_c (w : World) (xb : Nat) (xc : Cp) (xa : Sl Int) (xg : UInt64) (xl : Int) (xy : Bool) (b : Int) (hxb : w.heap[xb]? = Option.some (.cells (wtcells (⟨⟨xc, xa, xg, xl⟩, xy⟩ : Wtr)) 141 (0, 0))) (hx0 : Deep.good (hp w) xc) (hpre : chipOk (cv xc) = true ∧ 0 ≤ b ∧ b < (cv xc).blocks.length) : Calls Tryz.prog 144 #[.pointer (some ⟨xb, 0, none⟩), .int .i64 b] w fun e w' => e = .returned (.int .u64 ((greatF (cv xc) b) : Nat)) ∧ Mem w [] w' := by
 have ghxb : OldB w xb (wtcells (⟨⟨xc, xa, xg, xl⟩, xy⟩ : Wtr)) 141 := ⟨hxb⟩
 have ghx0 : GvD w xc := ⟨hx0⟩
 obtain ⟨hk, hb0, hb1⟩ := hpre
 have hsm : smallC xc := small_of hk
 have hbl : (cv xc).blocks.length = xc.blocks.xs.length := bvs_length _
 obtain ⟨B, hB⟩ := get_some (xs := xc.blocks.xs) (i := b.toNat) (by omega)
 have mbB : Mb B xc.blocks := ⟨List.mem_of_getElem? hB⟩
 have hBv := blk_of hB
 have hBo := bkOk_iff.1 ((chipOk_iff.1 hk).2.2.2.2 (bv B) (List.mem_of_getElem? (bvs_get hB)))
 have hso := soundF_iff.1 (chipOk_iff.1 hk).1
 have hBu : (blkAt (cv xc) b).used = B.used := by rw [hBv]; rfl
 simp only [bv, cv] at hBo hso
 have htl := txs_length B.pages.xs
 have hgE : greatF (cv xc) b = greatL (txs B.pages.xs) := by rw [greatF, hBv]; rfl
 refine calls_of (args := [_, _]) Tryz.func144 rfl Tryz.ntmps144 rfl ?_
 change Cw _ _ _ _ _ [(0, .pointer (some ⟨xb, 0, none⟩)), (1, .int .i64 b)] []
 refine cw_seq ?_
 refine cw_region ?_
 refine sq_r (ry_assign rfl) ?_
 refine sq_nil ?_
 refine ex_then ?_
 refine cw_seq ?_
 refine cw_region ?_
 refine sq_r (ry_assign rfl) ?_
 refine sq_nil ?_
 refine ex_then ?_
 refine cw_seq ?_
 refine cw_seq ?_
 refine cw_region ?_
 refine sq_r (ry_move rfl) ?_
 refine sq_r (ry_nilp rfl) ?_
 refine sq_r (ry_field (o' := 0) rfl rfl) ?_
 refine sq_r (ry_field (o' := 0) rfl rfl) ?_
 refine sq_r (ry_field (o' := 2) rfl rfl) ?_
 refine sq_r (Ry.to (v' := xc.blocks.sv.val) (ry_cellP rfl) rfl) ?_
 refine sq_r (ry_move rfl) ?_
 refine sq_r (ry_idxH rfl rfl b.toNat (by omega) (by omega)) ?_
 refine sq_r (ry_field rfl rfl) ?_
 refine sq_r (ry_elemcH (j := 0) rfl b.toNat hB rfl (by decide)) ?_
 refine sq_r (ry_lenH rfl) ?_
 refine sq_r (ry_move rfl) ?_
 refine sq_nil ?_
 refine ex_then ?_
 refine cw_block ?_
 refine cw_loop (X := Nat) (fun zz => [(21, .int .i64 (zz : Nat)), (5, .int .u64 ((greatL ((txs B.pages.xs).take zz)) : Nat)), (19, B.pages.sv.val), (20, .int .i64 (B.pages.xs.length : Nat))]) (fun zz => []) (fun zz => zz ≤ B.pages.xs.length) (fun zz => B.pages.xs.length - zz) 0 (Nat.zero_le _) (Sub.cons rfl (Sub.cons rfl (Sub.cons rfl (Sub.cons rfl (Sub.nil _))))) (fun w hw => Keep.mem hw) ?_
 rintro i hi1
 refine cw_seq ?_
 refine cw_region ?_
 refine sq_r (ry_int rfl rfl rfl) ?_
 refine sq_nil ?_
 refine ex_then ?_
 refine cw_seq ?_
 refine cw_cond rfl (fun h0 => ?_) (fun h0 => ?_)
 ·
  try simp only [Z0, Z1, Z2, Z3, Z4, Z5, Z6, Z7, Z8, Z9] at h0
  obtain ⟨y, hy⟩ := get_some (xs := B.pages.xs) (i := i) (by omega)
  have mby : Mb y B.pages := ⟨List.mem_of_getElem? hy⟩
  have hsn := greatL_snoc (txs_get hy)
  have hgl := greatL_lt ((txs B.pages.xs).take i)
  have hrl := rootG_lt y.xs
  refine cw_skip ?_
  refine ex_then ?_
  refine cw_seq ?_
  refine cw_block ?_
  refine cw_seq ?_
  refine cw_region ?_
  refine sq_r (ry_idxH rfl rfl i rfl (by omega)) ?_
  refine sq_r (ry_elemcH (j := 0) rfl i hy rfl (by decide)) ?_
  refine sq_r (ry_assign rfl) ?_
  refine sq_nil ?_
  refine ex_then ?_
  refine cw_seq ?_
  refine cw_region ?_
  refine sq_r (ry_move rfl) ?_
  refine sq_callC rfl trivial fun x27 hp27 => ?_
  have hpg : x27.gen.toNat = (rreadF y.xs).1.gen := congrArg RV.gen hp27
  refine sq_r (ry_move rfl) ?_
  refine sq_r (ry_extract (v := .agg (rtcells x27)) rfl rfl) ?_
  refine sq_r (ry_extract (v := .int .i64 ((rreadF y.xs).2)) rfl rfl) ?_
  refine sq_allocA fun b8 => ?_
  refine sq_storeW rfl rfl ?_
  refine sq_r (ry_assign rfl) ?_
  refine sq_nil ?_
  refine ex_then ?_
  refine cw_seq ?_
  refine cw_region ?_
  refine sq_r (ry_move rfl) ?_
  refine sq_r (ry_int rfl rfl rfl) ?_
  refine sq_nil ?_
  refine ex_then ?_
  refine cw_cond rfl (fun h1 => ?_) (fun h1 => ?_)
  ·
   try simp only [Z0, Z1, Z2, Z3, Z4, Z5, Z6, Z7, Z8, Z9] at h1
   have hr : rootG y.xs = x27.gen.toNat := by rw [rootG, if_pos h1, ← hpg]
   refine cw_region ?_
   refine sq_r (ry_move rfl) ?_
   refine sq_r (ry_field (o' := 0) rfl rfl) ?_
   refine sq_r (ry_cellc rfl) ?_
   refine sq_r (ry_max rfl rfl) ?_
   refine sq_r (ry_assign rfl) ?_
   refine sq_nil ?_
   refine ex_block ?_
   refine ex_then ?_
   refine cw_region ?_
   refine sq_r (ry_add rfl rfl (by omega)) ?_
   refine sq_r (ry_move rfl) ?_
   refine sq_nil ?_
   exact ex_again (x := (i)) (i + 1) (by first | omega | (simp only []; omega)) (by first | omega | (simp only []; omega)) (Sub.cons rfl (Sub.cons (look_eq rfl (by rw [hsn, hr]; congr 1; omega)) (Sub.cons rfl (Sub.cons rfl (Sub.nil _))))) (fun w hw => Keep.mem hw)
  ·
   try simp only [Z0, Z1, Z2, Z3, Z4, Z5, Z6, Z7, Z8, Z9] at h1
   have hr : rootG y.xs = 0 := by rw [rootG, if_neg h1]
   refine cw_skip ?_
   refine ex_block ?_
   refine ex_then ?_
   refine cw_region ?_
   refine sq_r (ry_add rfl rfl (by omega)) ?_
   refine sq_r (ry_move rfl) ?_
   refine sq_nil ?_
   exact ex_again (x := (i)) (i + 1) (by first | omega | (simp only []; omega)) (by first | omega | (simp only []; omega)) (Sub.cons rfl (Sub.cons (look_eq rfl (by rw [hsn, hr]; congr 1; omega)) (Sub.cons rfl (Sub.cons rfl (Sub.nil _))))) (fun w hw => Keep.mem hw)
 ·
  try simp only [Z0, Z1, Z2, Z3, Z4, Z5, Z6, Z7, Z8, Z9] at h0
  obtain rfl : i = B.pages.xs.length := by omega
  have hz : greatL (txs B.pages.xs) = (greatL ((txs B.pages.xs).take B.pages.xs.length)) := by rw [← htl, List.take_length]
  refine cw_exit ?_
  refine ex_pass_exit ?_
  refine ex_pass_exit ?_
  refine ex_block_hit ?_
  refine ex_then ?_
  refine cw_seq ?_
  refine cw_region ?_
  refine sq_r (ry_move rfl) ?_
  refine sq_r (ry_assign rfl) ?_
  refine sq_nil ?_
  refine ex_then ?_
  refine cw_ret ?_
  refine ex_ret (.inl rfl) (res_1 rfl (rv_tmp rfl)) (fun w1 hw => ?_)
  exact ⟨by rw [hgE, hz], Keep.mem hw⟩
instance wgreatest_i {w0 : World} {L : List Ent} {xb : Nat} {xc : Cp} {xa : Sl Int} {xg : UInt64} {xl : Int} {xy : Bool} {b : Int} [hxb : Blk w0 L xb (wtcells (⟨⟨xc, xa, xg, xl⟩, xy⟩ : Wtr)) 141] [hx0 : HdD w0 L xc] : FnQ Tryz.prog 144 w0 L [.pointer (some ⟨xb, 0, none⟩), .int .i64 b] (.int .u64 ((greatF (cv xc) b) : Nat)) (chipOk (cv xc) = true ∧ 0 ≤ b ∧ b < (cv xc).blocks.length) := ⟨fun hp w hw => wgreatest_c w xb xc xa xg xl xy b (hxb.h w hw) (hx0.h w hw) hp⟩
theorem wstale_c (w : World) (xb : Nat) (xc : Cp) (xa : Sl Int) (xg : UInt64) (xl : Int) (xy : Bool) (b : Int) (hxb : w.heap[xb]? = Option.some (.cells (wtcells (⟨⟨xc, xa, xg, xl⟩, xy⟩ : Wtr)) 141 (0, 0))) (hx0 : Deep.good (hp w) xc) (hpre : chipOk (cv xc) = true ∧ 0 ≤ b ∧ b < (cv xc).blocks.length) : Calls Tryz.prog 120 #[.pointer (some ⟨xb, 0, none⟩), .int .i64 b] w fun e w' => e = .returned (.bool (staleF (cv xc) b)) ∧ Mem w [] w' := by
 have ghxb : OldB w xb (wtcells (⟨⟨xc, xa, xg, xl⟩, xy⟩ : Wtr)) 141 := ⟨hxb⟩
 have ghx0 : GvD w xc := ⟨hx0⟩
 have hpre2 := hpre
 obtain ⟨hk, hb0, hb1⟩ := hpre
 have hsm : smallC xc := small_of hk
 have hbl : (cv xc).blocks.length = xc.blocks.xs.length := bvs_length _
 obtain ⟨B, hB⟩ := get_some (xs := xc.blocks.xs) (i := b.toNat) (by omega)
 have mbB : Mb B xc.blocks := ⟨List.mem_of_getElem? hB⟩
 have hBv := blk_of hB
 have hBo := bkOk_iff.1 ((chipOk_iff.1 hk).2.2.2.2 (bv B) (List.mem_of_getElem? (bvs_get hB)))
 have hso := soundF_iff.1 (chipOk_iff.1 hk).1
 have hBu : (blkAt (cv xc) b).used = B.used := by rw [hBv]; rfl
 simp only [bv, cv] at hBo hso
 refine calls_of (args := [_, _]) Tryz.func120 rfl Tryz.ntmps120 rfl ?_
 change Cw _ _ _ _ _ [(0, .pointer (some ⟨xb, 0, none⟩)), (1, .int .i64 b)] []
 refine cw_seq ?_
 refine cw_region ?_
 refine sq_r (ry_assign rfl) ?_
 refine sq_nil ?_
 refine ex_then ?_
 refine cw_seq ?_
 refine cw_region ?_
 refine sq_r (ry_move rfl) ?_
 refine sq_r (ry_nilp rfl) ?_
 refine sq_r (ry_field (o' := 0) rfl rfl) ?_
 refine sq_r (ry_field (o' := 0) rfl rfl) ?_
 refine sq_r (ry_field (o' := 2) rfl rfl) ?_
 refine sq_r (Ry.to (v' := xc.blocks.sv.val) (ry_cellP rfl) rfl) ?_
 refine sq_r (ry_move rfl) ?_
 refine sq_r (ry_idxH rfl rfl b.toNat (by omega) (by omega)) ?_
 refine sq_r (ry_elemH rfl b.toNat hB rfl) ?_
 have mb14 : Mb B xc.blocks := ⟨List.mem_of_getElem? hB⟩
 refine sq_allocA fun b5 => ?_
 refine sq_storeW rfl rfl ?_
 refine sq_nil ?_
 refine ex_then ?_
 refine cw_seq ?_
 refine cw_region ?_
 refine sq_r (ry_field (o' := 3) rfl rfl) ?_
 refine sq_r (ry_cellc rfl) ?_
 refine sq_r (ry_not rfl) ?_
 refine sq_r (ry_move rfl) ?_
 refine sq_gt rfl rfl rfl (fun hg => (Ry.yl (ry_field (o' := 1) rfl rfl))) ?_
 refine sq_gt rfl rfl rfl (fun hg => (Ry.yl (ry_cellc (ev_c hg rfl)))) ?_
 refine sq_gt rfl rfl rfl (fun hg => (Ry.yl (ry_int (ev_c hg rfl) rfl rfl))) ?_
 refine sq_gt rfl rfl rfl (fun hg => (Ry.yl (ry_move (ev_c hg rfl)))) ?_
 refine sq_nf rfl rfl rfl (fun hg => (Ry.yl (ry_move rfl))) ?_
 refine sq_nf rfl rfl rfl (fun hg => (Ry.yl (ry_int (ev_c hg rfl) rfl rfl))) ?_
 refine sq_nf rfl rfl rfl (fun hg => (Ry.yl (ry_move (ev_c hg rfl)))) ?_
 refine sq_nt rfl rfl rfl (fun hg => (Ry.yl (ry_move rfl))) ?_
 refine sq_nt rfl rfl rfl (fun hg => (Ry.yl (ry_move rfl))) ?_
 refine sq_nt rfl rfl rfl (fun hg => yl_callC (evl_cons (ev_c hg rfl) (evl_cons (ev_c hg rfl) evl_nil)) hpre2) ?_
 refine sq_nt rfl rfl rfl (fun hg => (Ry.yl (ry_int (ev_c hg rfl) rfl rfl))) ?_
 refine sq_nf rfl rfl rfl (fun hg => (Ry.yl (ry_and (ev_c hg rfl) (ev_cc hg rfl) rfl))) ?_
 refine sq_gt rfl rfl rfl (fun hg => (Ry.yl (ry_or (ev_c hg rfl) rfl (ev_cc hg rfl)))) ?_
 refine sq_r (ry_and rfl rfl rfl) ?_
 refine sq_r (ry_assign rfl) ?_
 refine sq_nil ?_
 refine ex_then ?_
 refine cw_ret ?_
 refine ex_ret (.inl rfl) (res_1 rfl (rv_tmp rfl)) (fun w1 hw => ?_)
 exact ⟨congrArg (fun b => Ending.returned (Value.bool b)) ((by
  have e : decide ((0 : Int) < ((greatF (cv xc) b : Nat) : Int)) = decide (0 < greatF (cv xc) b) := decide_eq_decide.2 (by omega)
  rw [staleF, hBv, e]; rfl)), Keep.mem hw⟩
instance wstale_i {w0 : World} {L : List Ent} {xb : Nat} {xc : Cp} {xa : Sl Int} {xg : UInt64} {xl : Int} {xy : Bool} {b : Int} [hxb : Blk w0 L xb (wtcells (⟨⟨xc, xa, xg, xl⟩, xy⟩ : Wtr)) 141] [hx0 : HdD w0 L xc] : FnQ Tryz.prog 120 w0 L [.pointer (some ⟨xb, 0, none⟩), .int .i64 b] (.bool (staleF (cv xc) b)) (chipOk (cv xc) = true ∧ 0 ≤ b ∧ b < (cv xc).blocks.length) := ⟨fun hp w hw => wstale_c w xb xc xa xg xl xy b (hxb.h w hw) (hx0.h w hw) hp⟩
theorem wfirstG_c (w : World) (xb : Nat) (xc : Cp) (xa : Sl Int) (xg : UInt64) (xl : Int) (xy : Bool) (b : Int) (hxb : w.heap[xb]? = Option.some (.cells (wtcells (⟨⟨xc, xa, xg, xl⟩, xy⟩ : Wtr)) 141 (0, 0))) (hx0 : Deep.good (hp w) xc) (hpre : chipOk (cv xc) = true ∧ 2 ≤ (cv xc).blocks.length ∧ (b = 0 ∨ b = 1)) : Calls Tryz.prog 122 #[.pointer (some ⟨xb, 0, none⟩), .int .i64 b] w fun e w' => e = .returned (.int .u64 ((firstG (cv xc) b) : Nat)) ∧ Mem w [] w' := by
 have ghxb : OldB w xb (wtcells (⟨⟨xc, xa, xg, xl⟩, xy⟩ : Wtr)) 141 := ⟨hxb⟩
 have ghx0 : GvD w xc := ⟨hx0⟩
 obtain ⟨hk, hb2, hb3⟩ := hpre
 have hgl := greatL_lt (blkAt (cv xc) (1 - b)).pages
 change greatF (cv xc) (1 - b) < _ at hgl
 refine calls_of (args := [_, _]) Tryz.func122 rfl Tryz.ntmps122 rfl ?_
 change Cw _ _ _ _ _ [(0, .pointer (some ⟨xb, 0, none⟩)), (1, .int .i64 b)] []
 refine cw_seq ?_
 refine cw_region ?_
 refine sq_r (ry_assign rfl) ?_
 refine sq_nil ?_
 refine ex_then ?_
 refine cw_seq ?_
 refine cw_region ?_
 refine sq_r (ry_move rfl) ?_
 refine sq_r (ry_sub rfl rfl (by omega)) ?_
 refine sq_r (ry_assign rfl) ?_
 refine sq_nil ?_
 refine ex_then ?_
 refine cw_seq ?_
 refine cw_region ?_
 refine sq_r (ry_move rfl) ?_
 refine sq_r (ry_move rfl) ?_
 refine sq_y (yl_callC rfl ⟨hk, by omega, by omega⟩) ?_
 refine sq_r (ry_move rfl) ?_
 refine sq_r (Ry.to (v' := .int .u64 (((1 - b).toNat : Nat) : Int)) (ry_convi rfl (by omega) (by simp only [nb]; omega)) (by congr 1; omega)) ?_
 refine sq_r (ry_addn (p := (greatF (cv xc) (1 - b))) (q := ((1 - b).toNat)) rfl rfl rfl rfl (by simp only [nb]; omega)) ?_
 refine sq_r (ry_max rfl rfl) ?_
 refine sq_r (ry_assign rfl) ?_
 refine sq_nil ?_
 refine ex_then ?_
 refine cw_ret ?_
 refine ex_ret (.inl rfl) (res_1 rfl (rv_tmp rfl)) (fun w1 hw => ?_)
 exact ⟨by rw [firstG]; congr 2; omega, Keep.mem hw⟩
instance wfirstG_i {w0 : World} {L : List Ent} {xb : Nat} {xc : Cp} {xa : Sl Int} {xg : UInt64} {xl : Int} {xy : Bool} {b : Int} [hxb : Blk w0 L xb (wtcells (⟨⟨xc, xa, xg, xl⟩, xy⟩ : Wtr)) 141] [hx0 : HdD w0 L xc] : FnQ Tryz.prog 122 w0 L [.pointer (some ⟨xb, 0, none⟩), .int .i64 b] (.int .u64 ((firstG (cv xc) b) : Nat)) (chipOk (cv xc) = true ∧ 2 ≤ (cv xc).blocks.length ∧ (b = 0 ∨ b = 1)) := ⟨fun hp w hw => wfirstG_c w xb xc xa xg xl xy b (hxb.h w hw) (hx0.h w hw) hp⟩
theorem wplaces_c (w : World) (xb : Nat) (xc : Cp) (xa : Sl Int) (xg : UInt64) (xl : Int) (xy : Bool) (hxb : w.heap[xb]? = Option.some (.cells (wtcells (⟨⟨xc, xa, xg, xl⟩, xy⟩ : Wtr)) 141 (0, 0))) (hx0 : Deep.good (hp w) xc) (hpre : chipOk (cv xc) = true ∧ 2 ≤ (cv xc).blocks.length ∧ (xl = 0 ∨ xl = 1)) : Calls Tryz.prog 151 #[.pointer (some ⟨xb, 0, none⟩)] w fun e w' => e = .returned (.int .i64 (placesF (cv xc) xl)) ∧ Mem w [] w' := by
 have ghxb : OldB w xb (wtcells (⟨⟨xc, xa, xg, xl⟩, xy⟩ : Wtr)) 141 := ⟨hxb⟩
 have ghx0 : GvD w xc := ⟨hx0⟩
 obtain ⟨hk, hb2, hb3⟩ := hpre
 have hsm : smallC xc := small_of hk
 have hbl : (cv xc).blocks.length = xc.blocks.xs.length := bvs_length _
 obtain ⟨Bo, hBo⟩ := get_some (xs := xc.blocks.xs) (i := (1 - xl).toNat) (by omega)
 obtain ⟨Bl, hBl⟩ := get_some (xs := xc.blocks.xs) (i := xl.toNat) (by omega)
 have hBov := blk_of hBo
 have hBlv := blk_of hBl
 refine calls_of (args := [_]) Tryz.func151 rfl Tryz.ntmps151 rfl ?_
 change Cw _ _ _ _ _ [(0, .pointer (some ⟨xb, 0, none⟩))] []
 refine cw_seq ?_
 refine cw_region ?_
 refine sq_r (ry_assign rfl) ?_
 refine sq_nil ?_
 refine ex_then ?_
 refine cw_seq ?_
 refine cw_quiet (by kernel_rfl) (by kernel_rfl) ?_
 refine qt_r (ry_move rfl) ?_
 refine qt_r (ry_nilp rfl) ?_
 refine qt_r (ry_field (o' := 0) rfl rfl) ?_
 refine qt_r (ry_field (o' := 8) rfl rfl) ?_
 refine qt_r (Ry.to (v' := .int .i64 xl) (ry_cellP rfl) rfl) ?_
 refine qt_r (ry_move rfl) ?_
 refine qt_r (ry_nilp rfl) ?_
 refine qt_r (ry_field (o' := 0) rfl rfl) ?_
 refine qt_r (ry_field (o' := 8) rfl rfl) ?_
 refine qt_r (Ry.to (v' := .int .i64 xl) (ry_cellP rfl) rfl) ?_
 refine qt_r (ry_sub rfl rfl (by omega)) ?_
 refine qt_r (ry_assign rfl) ?_
 refine qt_r (ry_assign rfl) ?_
 refine qt_nil ?_
 refine ex_then ?_
 refine cw_seq ?_
 refine cw_block ?_
 refine cw_seq ?_
 refine cw_region ?_
 refine sq_r (ry_move rfl) ?_
 refine sq_r (ry_nilp rfl) ?_
 refine sq_r (ry_field (o' := 0) rfl rfl) ?_
 refine sq_r (ry_field (o' := 0) rfl rfl) ?_
 refine sq_r (ry_field (o' := 2) rfl rfl) ?_
 refine sq_r (Ry.to (v' := xc.blocks.sv.val) (ry_cellP rfl) rfl) ?_
 refine sq_r (ry_move rfl) ?_
 refine sq_r (ry_idxH rfl rfl ((1 - xl).toNat) (by omega) (by omega)) ?_
 refine sq_r (ry_field rfl rfl) ?_
 refine sq_r (ry_elemcH (j := 3) rfl ((1 - xl).toNat) hBo rfl (by decide)) ?_
 refine sq_r (ry_assign rfl) ?_
 refine sq_nil ?_
 refine ex_then ?_
 refine cw_cond rfl (fun h0 => ?_) (fun h0 => ?_)
 ·
  try simp only [Z0, Z1, Z2, Z3, Z4, Z5, Z6, Z7, Z8, Z9] at h0
  refine cw_seq ?_
  refine cw_region ?_
  refine sq_r (ry_move rfl) ?_
  refine sq_r (ry_move rfl) ?_
  refine sq_y (yl_callC rfl ⟨hk, by omega, by omega⟩) ?_
  refine sq_r (ry_assign rfl) ?_
  refine sq_nil ?_
  refine ex_then ?_
  refine cw_ret ?_
  refine ex_block_ret ?_
  refine ex_pass_ret ?_
  refine ex_ret (.inl rfl) (res_1 rfl (rv_tmp rfl)) (fun w1 hw => ?_)
  exact ⟨congrArg (fun b => Ending.returned (Value.int .i64 b)) ((by rw [placesF, hBov, if_pos (show (bv Bo).bad = true from h0)])), Keep.mem hw⟩
 ·
  try simp only [Z0, Z1, Z2, Z3, Z4, Z5, Z6, Z7, Z8, Z9] at h0
  refine cw_seq ?_
  refine cw_region ?_
  refine sq_r (ry_move rfl) ?_
  refine sq_r (ry_nilp rfl) ?_
  refine sq_r (ry_field (o' := 0) rfl rfl) ?_
  refine sq_r (ry_field (o' := 0) rfl rfl) ?_
  refine sq_r (ry_field (o' := 2) rfl rfl) ?_
  refine sq_r (Ry.to (v' := xc.blocks.sv.val) (ry_cellP rfl) rfl) ?_
  refine sq_r (ry_move rfl) ?_
  refine sq_r (ry_idxH rfl rfl xl.toNat (by omega) (by omega)) ?_
  refine sq_r (ry_field rfl rfl) ?_
  refine sq_r (ry_elemcH (j := 3) rfl xl.toNat hBl rfl (by decide)) ?_
  refine sq_r (ry_move rfl) ?_
  refine sq_gt rfl rfl rfl (fun hg => (Ry.yl (ry_move rfl))) ?_
  refine sq_gt rfl rfl rfl (fun hg => (Ry.yl (ry_move rfl))) ?_
  refine sq_gt rfl rfl rfl (fun hg => yl_callC (evl_cons (ev_c hg rfl) (evl_cons (ev_c hg rfl) evl_nil)) ⟨hk, by omega, by omega⟩) ?_
  refine sq_gt rfl rfl rfl (fun hg => (Ry.yl (ry_int (ev_c hg rfl) rfl rfl))) ?_
  refine sq_r (ry_and rfl rfl rfl) ?_
  refine sq_r (ry_assign rfl) ?_
  refine sq_nil ?_
  refine ex_then ?_
  refine cw_cond rfl (fun h1 => ?_) (fun h1 => ?_)
  ·
   try simp only [Z0, Z1, Z2, Z3, Z4, Z5, Z6, Z7, Z8, Z9] at h1
   refine cw_seq ?_
   refine cw_region ?_
   refine sq_r (ry_move rfl) ?_
   refine sq_r (ry_move rfl) ?_
   refine sq_y (yl_callC rfl ⟨hk, by omega, by omega⟩) ?_
   refine sq_r (ry_assign rfl) ?_
   refine sq_nil ?_
   refine ex_then ?_
   refine cw_ret ?_
   refine ex_block_ret ?_
   refine ex_pass_ret ?_
   refine ex_ret (.inl rfl) (res_1 rfl (rv_tmp rfl)) (fun w1 hw => ?_)
   exact ⟨congrArg (fun b => Ending.returned (Value.int .i64 b)) ((by rw [placesF, hBov, hBlv, if_neg (show ¬ (bv Bo).bad = true by rw [show (bv Bo).bad = Bo.bad from rfl, h0]; simp), if_pos ⟨h1.1, h1.2⟩])), Keep.mem hw⟩
  ·
   try simp only [Z0, Z1, Z2, Z3, Z4, Z5, Z6, Z7, Z8, Z9] at h1
   refine cw_skip ?_
   refine ex_block ?_
   refine ex_then ?_
   refine cw_seq ?_
   refine cw_region ?_
   refine sq_r (ry_move rfl) ?_
   refine sq_r (ry_nilp rfl) ?_
   refine sq_r (ry_field (o' := 0) rfl rfl) ?_
   refine sq_r (ry_field (o' := 0) rfl rfl) ?_
   refine sq_r (ry_field (o' := 0) rfl rfl) ?_
   refine sq_r (Ry.to (v' := .int .i64 xc.pages) (ry_cellP rfl) rfl) ?_
   refine sq_r (ry_assign rfl) ?_
   refine sq_nil ?_
   refine ex_then ?_
   refine cw_ret ?_
   refine ex_ret (.inl rfl) (res_1 rfl (rv_tmp rfl)) (fun w1 hw => ?_)
   exact ⟨congrArg (fun b => Ending.returned (Value.int .i64 b)) ((by
    rw [placesF, hBov, hBlv, if_neg (show ¬ (bv Bo).bad = true by rw [show (bv Bo).bad = Bo.bad from rfl, h0]; simp), if_neg]
    ·
     rfl
    ·
     rintro ⟨g1, g2⟩
     rcases h1 with h | h
     ·
      exact absurd (h.symm.trans g1) (by simp)
     ·
      omega)), Keep.mem hw⟩
instance wplaces_i {w0 : World} {L : List Ent} {xb : Nat} {xc : Cp} {xa : Sl Int} {xg : UInt64} {xl : Int} {xy : Bool} [hxb : Blk w0 L xb (wtcells (⟨⟨xc, xa, xg, xl⟩, xy⟩ : Wtr)) 141] [hx0 : HdD w0 L xc] : FnQ Tryz.prog 151 w0 L [.pointer (some ⟨xb, 0, none⟩)] (.int .i64 (placesF (cv xc) xl)) (chipOk (cv xc) = true ∧ 2 ≤ (cv xc).blocks.length ∧ (xl = 0 ∨ xl = 1)) := ⟨fun hp w hw => wplaces_c w xb xc xa xg xl xy (hxb.h w hw) (hx0.h w hw) hp⟩

end Go.Proofs.YtaipiecplldinaaGreat

/- A page programmed. -/
namespace Go.Proofs.YtaipiecplldinaaGreat
open Go.Eng Go.Kb
open Go.RowKit
theorem cprogram_c (w : World) (c : Cp) (b : Int) (g : Int) (x : Sv) (xs : List UInt8) (hc : Deep.good (hp w) c) (hx : Lies benc 1 (hp w) x xs) (hpre : smallC c) : Calls Tryz.prog 149 #[.agg (cpcells c), .int .i64 b, .int .i64 g, x.val] w fun e w' => ∃ zz : Cp, e = .returned (.tuple #[.agg (cpcells zz), .int .i64 (progE (cv c) b g xs)]) ∧ (cv zz = programF (cv c) b g xs) ∧ Mem w [fz zz] w' := by
 have ghc : GvD w c := ⟨hc⟩
 have ghx : Gv w x benc 1 xs := ⟨hx⟩
 have hsm : smallC c := hpre
 obtain ⟨hp1, hp2, hp3⟩ := hpre
 have hct : ctop = 1099511627776 := rfl
 refine calls_of (args := [_, _, _, _]) Tryz.func149 rfl Tryz.ntmps149 rfl ?_
 change Cw _ _ _ _ _ [(0, .agg (cpcells c)), (1, .int .i64 b), (2, .int .i64 g), (3, x.val)] []
 refine cw_seq ?_
 refine cw_region ?_
 refine sq_boxA rfl fun b4 => ?_
 refine sq_allocA fun b8 => ?_
 refine sq_r (ry_assign rfl) ?_
 refine sq_nil ?_
 refine ex_then ?_
 refine cw_seq ?_
 refine cw_region ?_
 refine sq_r (ry_whole rfl) ?_
 refine sq_callC rfl (by assumption) fun x18 hp18 => ?_
 refine sq_allocA fun b10 => ?_
 refine sq_storeW rfl rfl ?_
 refine sq_nil ?_
 refine ex_then ?_
 refine cw_seq ?_
 refine cw_seq ?_
 refine cw_region ?_
 refine sq_r (ry_whole rfl) ?_
 refine sq_r (ry_move rfl) ?_
 refine sq_y (yl_callC rfl trivial) ?_
 refine sq_r (ry_not rfl) ?_
 refine sq_r (ry_move rfl) ?_
 refine sq_gf rfl rfl rfl (fun hg => (Ry.yl (ry_move rfl))) ?_
 refine sq_gf rfl rfl rfl (fun hg => (Ry.yl (ry_int (ev_c hg rfl) rfl rfl))) ?_
 refine sq_r (ry_or rfl rfl rfl) ?_
 refine sq_r (ry_move rfl) ?_
 refine sq_gf rfl rfl rfl (fun hg => (Ry.yl (ry_move rfl))) ?_
 refine sq_gf rfl rfl rfl (fun hg => (Ry.yl (ry_field (o' := 0) rfl rfl))) ?_
 refine sq_gf rfl rfl rfl (fun hg => (Ry.yl (ry_cellc (ev_c hg rfl)))) ?_
 refine sq_gf rfl rfl rfl (fun hg => (Ry.yl (ry_int (ev_c hg rfl) (ev_c hg rfl) rfl))) ?_
 refine sq_r (ry_or rfl rfl rfl) ?_
 refine sq_r (ry_move rfl) ?_
 refine sq_gf rfl rfl rfl (fun hg => (Ry.yl (ry_move rfl))) ?_
 refine sq_gf rfl rfl rfl (fun hg => (Ry.yl (ry_lenH (ev_c hg rfl)))) ?_
 refine sq_gf rfl rfl rfl (fun hg => (Ry.yl (ry_field (o' := 1) rfl rfl))) ?_
 refine sq_gf rfl rfl rfl (fun hg => (Ry.yl (ry_cellc (ev_c hg rfl)))) ?_
 refine sq_gf rfl rfl rfl (fun hg => (Ry.yl (ry_int (ev_c hg rfl) (ev_c hg rfl) rfl))) ?_
 refine sq_r (ry_or rfl rfl rfl) ?_
 refine sq_r (ry_move rfl) ?_
 refine sq_gf rfl rfl rfl (fun hg => (Ry.yl (ry_field (o' := 3) rfl rfl))) ?_
 refine sq_gf rfl rfl rfl (fun hg => (Ry.yl (ry_cellc (ev_c hg rfl)))) ?_
 refine sq_gf rfl rfl rfl (fun hg => (Ry.yl (ry_int (ev_c hg rfl) rfl rfl))) ?_
 refine sq_r (ry_or rfl rfl rfl) ?_
 refine sq_nil ?_
 refine ex_then ?_
 refine cw_cond rfl (fun h0 => ?_) (fun h0 => ?_)
 ·
  try simp only [Z0, Z1, Z2, Z3, Z4, Z5, Z6, Z7, Z8, Z9] at h0
  have hz : ¬ progOk (cv c) b g xs = true := fun hk => by
   obtain ⟨k1, k2, k3, k4, k5⟩ := progOk_iff.1 hk
   rw [k1] at h0
   simp only [cv] at k3 k4 k5
   simp only [Bool.true_eq_false, false_or] at h0
   omega
  refine cw_seq ?_
  refine cw_region ?_
  refine sq_r (ry_whole rfl) ?_
  refine sq_storeW rfl rfl ?_
  refine sq_r (ry_assign rfl) ?_
  refine sq_nil ?_
  refine ex_then ?_
  refine cw_ret ?_
  refine ex_pass_ret ?_
  refine ex_ret (.inl rfl) (res_2 rfl (rv_agg rfl) (rv_tmp rfl)) (fun w1 hw => ?_)
  exact ⟨x18, by rw [progE, if_neg hz], by rw [hp18, programF, if_neg (fun h => hz h.1)], frzAll x18 (Keep.mem hw)⟩
 ·
  try simp only [Z0, Z1, Z2, Z3, Z4, Z5, Z6, Z7, Z8, Z9] at h0
  have hk : progOk (cv c) b g xs = true := by
   cases k1 : hasF (cv c) b with
   | false => rw [k1] at h0; simp at h0
   | true =>
    rw [k1] at h0
    simp only [Bool.true_eq_false, false_or] at h0
    exact progOk_iff.2 ⟨k1, by omega, by simp only [cv]; omega, by simp only [cv]; omega, by simp only [cv]; omega⟩
  have hh := (progOk_iff.1 hk).1
  have hbb := (hasF_iff.1 hh).2
  have hbl : x18.blocks.xs.length = c.blocks.xs.length := by have := congrArg (fun v : CV => v.blocks.length) hp18; simpa only [cv, bvs_length] using this
  have hol : x18.ops = c.ops := congrArg CV.ops hp18
  have hcb : (cv c).blocks.length = c.blocks.xs.length := bvs_length _
  obtain ⟨B, hB⟩ := get_some (xs := x18.blocks.xs) (i := b.toNat) (by omega)
  have hBl : b.toNat < x18.blocks.xs.length := (List.getElem?_eq_some_iff.1 hB).1
  have hBv : bv B = blkAt (cv c) b := by
   have h1 := blkAt_get hh
   have h2 := bvs_get hB
   rw [show bvs x18.blocks.xs = (cv c).blocks from congrArg CV.blocks hp18, h1] at h2
   exact (Option.some.inj h2).symm
  have hBo : bkOk c.pages c.size (bv B) = true := by rw [hBv]; exact blkAt_ok hh
  obtain ⟨o1, o2, o3, o4, o5, o6⟩ := bkOk_iff.1 hBo
  have hso := soundF_iff.1 (chipOk_iff.1 (hasF_iff.1 hh).1).1
  have hog := (chipOk_iff.1 (hasF_iff.1 hh).1).2.1
  simp only [bv, cv] at o1 o2 o3 o4 o5 o6 hso hog
  have hTl := txs_length B.pages.xs
  obtain ⟨_, k2, k3, k4, k5⟩ := progOk_iff.1 hk
  simp only [cv] at k3 k4 k5
  refine cw_skip ?_
  refine ex_then ?_
  refine cw_seq ?_
  refine cw_seq ?_
  refine cw_region ?_
  refine sq_r (ry_field (o' := 4) rfl rfl) ?_
  refine sq_r (ry_cellc rfl) ?_
  refine sq_nil ?_
  refine ex_then ?_
  refine cw_cond rfl (fun h1 => ?_) (fun h1 => ?_)
  ·
   try simp only [Z0, Z1, Z2, Z3, Z4, Z5, Z6, Z7, Z8, Z9] at h1
   refine cw_seq ?_
   refine cw_region ?_
   refine sq_r (ry_whole rfl) ?_
   refine sq_storeW rfl rfl ?_
   refine sq_r (ry_assign rfl) ?_
   refine sq_nil ?_
   refine ex_then ?_
   refine cw_ret ?_
   refine ex_pass_ret ?_
   refine ex_ret (.inl rfl) (res_2 rfl (rv_agg rfl) (rv_tmp rfl)) (fun w1 hw => ?_)
   exact ⟨x18, by rw [progE, if_pos hk, if_pos (show (cv c).off = true from h1)], by rw [hp18, programF, if_neg (fun h => absurd (h1.symm.trans h.2.1) (by simp))], frzAll x18 (Keep.mem hw)⟩
  ·
   try simp only [Z0, Z1, Z2, Z3, Z4, Z5, Z6, Z7, Z8, Z9] at h1
   have hoff : (cv c).off = false := h1
   refine cw_skip ?_
   refine ex_then ?_
   refine cw_seq ?_
   refine cw_region ?_
   refine sq_r (ry_field (o' := 2) rfl rfl) ?_
   refine sq_r (ry_cellc rfl) ?_
   refine sq_r (ry_move rfl) ?_
   refine sq_r (ry_idxH rfl rfl b.toNat (by omega) hBl) ?_
   refine sq_r (ry_assign rfl) ?_
   refine sq_nil ?_
   refine ex_then ?_
   refine cw_seq ?_
   refine cw_seq ?_
   refine cw_region ?_
   refine sq_r (ry_move rfl) ?_
   refine sq_r (ry_nilp rfl) ?_
   refine sq_r (ry_field rfl rfl) ?_
   refine sq_r (ry_elemcH (j := 3) rfl b.toNat hB rfl (by decide)) ?_
   refine sq_r (ry_move rfl) ?_
   refine sq_gf rfl rfl rfl (fun hg => (Ry.yl (ry_move rfl))) ?_
   refine sq_gf rfl rfl rfl (fun hg => (Ry.yl (ry_move rfl))) ?_
   refine sq_gf rfl rfl rfl (fun hg => (Ry.yl (ry_nilp (ev_c hg rfl)))) ?_
   refine sq_gf rfl rfl rfl (fun hg => (Ry.yl (ry_field (ev_c hg rfl) rfl))) ?_
   refine sq_gf rfl rfl rfl (fun hg => (Ry.yl (ry_elemcH (j := 1) (ev_c hg rfl) b.toNat hB rfl (by decide)))) ?_
   refine sq_gf rfl rfl rfl (fun hg => (Ry.yl (ry_int (ev_c hg rfl) (ev_c hg rfl) rfl))) ?_
   refine sq_r (ry_or rfl rfl rfl) ?_
   refine sq_nil ?_
   refine ex_then ?_
   refine cw_cond rfl (fun h2 => ?_) (fun h2 => ?_)
   ·
    try simp only [Z0, Z1, Z2, Z3, Z4, Z5, Z6, Z7, Z8, Z9] at h2
    have hw2 : (blkAt (cv c) b).bad = true ∨ g ≠ (blkAt (cv c) b).used := by rw [← hBv]; exact h2
    refine cw_seq ?_
    refine cw_region ?_
    refine sq_r (ry_whole rfl) ?_
    refine sq_storeW rfl rfl ?_
    refine sq_r (ry_assign rfl) ?_
    refine sq_nil ?_
    refine ex_then ?_
    refine cw_ret ?_
    refine ex_pass_ret ?_
    refine ex_ret (.inl rfl) (res_2 rfl (rv_agg rfl) (rv_tmp rfl)) (fun w1 hw => ?_)
    exact ⟨x18, by rw [progE, if_pos hk, if_neg (by rw [hoff]; simp), if_pos hw2], by rw [hp18, programF, if_neg (fun h => hw2.elim (fun g1 => absurd (g1.symm.trans h.2.2.1) (by simp)) (fun g1 => g1 h.2.2.2))], frzAll x18 (Keep.mem hw)⟩
   ·
    try simp only [Z0, Z1, Z2, Z3, Z4, Z5, Z6, Z7, Z8, Z9] at h2
    have hw2 : ¬ ((blkAt (cv c) b).bad = true ∨ g ≠ (blkAt (cv c) b).used) := by
     rw [← hBv]
     rintro (h | h)
     ·
      exact absurd (h2.1.symm.trans h) (by simp)
     ·
      exact h h2.2
    have hgu : g = B.used := h2.2
    obtain ⟨q, hq⟩ := get_some (xs := (txs B.pages.xs)) (i := g.toNat) (by omega)
    have hql := o6 q (List.mem_of_getElem? hq)
    have hne : B.pages.xs ≠ [] := fun e => by
     have h9 : (txs B.pages.xs).length = 0 := by rw [e]; rfl
     omega
    have hB1 : (x18.blocks.xs.set b.toNat ({ B with used := B.used + 1 } : Bk))[b.toNat]? = Option.some ({ B with used := B.used + 1 } : Bk) := List.getElem?_set_self hBl
    have hpo : programF (cv c) b g xs = progC (cv c) b g xs := by
     rw [programF, if_pos ⟨hk, hoff, by cases hb : (blkAt (cv c) b).bad with | false => rfl | true => exact absurd (.inl hb) hw2, Decidable.not_not.1 fun h => hw2 (.inr h)⟩]
    refine cw_skip ?_
    refine ex_then ?_
    refine cw_seq ?_
    refine cw_ex (pr := fun rm : Sv => rm.nil = false ∧ rm.sp = none ∧ B.pages.xs = wins rm 0 (txs B.pages.xs)) (fun rm : Sv => [own (scells (τ := UInt8)) 1 B.pages.sv B.pages.xs, own benc 1 rm (txs B.pages.xs).flatten, own bkcells 4 x18.blocks.sv x18.blocks.xs, Ent.all ((x18.blocks.xs.eraseIdx b.toNat).map fun b : Bk => pgE b.pages), own ftcells 4 x18.faults.sv x18.faults.xs, blk b10 (cpcells x18) 25, blk b8 (cpcells zCp) 25, blk b4 (cpcells c) 25]) (fun w hw => blk_open hB hne (Keep.mem hw)) fun rm hrm => ?_
    obtain ⟨hn, hs, hwn⟩ := hrm
    have hPx : B.pages.xs[g.toNat]? = Option.some ⟨(win rm ((txs B.pages.xs).take g.toNat).flatten.length (((txs B.pages.xs).take g.toNat).flatten.length + q.length)), q⟩ := by rw [hwn, wins_txs, wins_get hq, Nat.zero_add]
    have hsv : ∀ r : List UInt8, r.length = q.length → B.pages.xs.map (fun x => x.sv) = (wins rm 0 ((txs B.pages.xs).set g.toNat r)).map (fun x => x.sv) := fun r hr => (congrArg (List.map fun x : Sl UInt8 => x.sv) hwn).trans (wins_svset hq hr)
    refine cw_region ?_
    refine sq_r (ry_whole rfl) ?_
    refine sq_y (yl_callC rfl (by omega)) ?_
    refine sq_r (ry_move rfl) ?_
    refine sq_r (ry_extract (v := .agg (ftcells ((strikesF (cv c)).1))) rfl rfl) ?_
    refine sq_r (ry_extract (v := .bool ((strikesF (cv c)).2)) rfl rfl) ?_
    refine sq_allocA fun b12 => ?_
    refine sq_storeW rfl rfl ?_
    refine sq_r (ry_assign rfl) ?_
    refine sq_nil ?_
    refine ex_then ?_
    refine cw_seq ?_
    refine cw_region ?_
    refine sq_r (ry_field (o' := 3) rfl rfl) ?_
    refine sq_r (ry_cellc rfl) ?_
    refine sq_r (ry_add rfl rfl (by omega)) ?_
    refine sq_r (ry_field (o' := 3) rfl rfl) ?_
    refine sq_store (cs' := cpcells (⟨x18.pages, x18.size, x18.blocks, (x18.ops + 1), x18.off, x18.faults⟩ : Cp)) rfl rfl (by show 3 < 6; decide) (by first | rfl | exact Sv.one _) rfl ?_
    refine sq_nil ?_
    refine ex_then ?_
    refine cw_seq ?_
    refine cw_region ?_
    refine sq_r (ry_move rfl) ?_
    refine sq_r (ry_nilp rfl) ?_
    refine sq_r (ry_field rfl rfl) ?_
    refine sq_r (ry_elemcH (j := 1) rfl b.toNat hB rfl (by decide)) ?_
    refine sq_r (ry_add rfl rfl (by omega)) ?_
    refine sq_r (ry_nilp rfl) ?_
    refine sq_r (ry_field rfl rfl) ?_
    refine sq_storeS (s := x18.blocks.sv) (n := 1) (k := b.toNat) (j := 1) (a := B) (a' := ({ B with used := B.used + 1 } : Bk)) (xs := x18.blocks.xs) (enc := bkcells) (c := 4) (v := .int .i64 (B.used + 1)) (by kernel_rfl) rfl rfl rfl hB (by simp [Value.cells, Value.oneCell']) (by rfl) (by decide) (by rfl) ?_
    refine sq_nil ?_
    refine ex_then ?_
    refine cw_seq ?_
    refine cw_region ?_
    refine sq_r (ry_move rfl) ?_
    refine sq_r (ry_nilp rfl) ?_
    refine sq_r (ry_field rfl rfl) ?_
    refine sq_r (Ry.to (v' := B.pages.sv.val) (ry_elemcH (j := 0) rfl b.toNat hB1 rfl (by decide)) rfl) ?_
    refine sq_r (ry_move rfl) ?_
    refine sq_r (ry_idxH rfl rfl g.toNat (by omega) (by omega)) ?_
    refine sq_r (Ry.to (v' := (win rm ((txs B.pages.xs).take g.toNat).flatten.length (((txs B.pages.xs).take g.toNat).flatten.length + q.length)).val) (ry_elemcH (j := 0) rfl g.toNat hPx rfl (by decide)) rfl) ?_
    refine sq_r (ry_move rfl) ?_
    refine sq_copyW (D := (win rm ((txs B.pages.xs).take g.toNat).flatten.length (((txs B.pages.xs).take g.toNat).flatten.length + q.length))) (S := x) (rm := rm) (k := ((txs B.pages.xs).take g.toNat).flatten.length) (xs := (txs B.pages.xs).flatten) (ys := xs) rfl hn hs rfl (by rw [win_o (by omega)]; omega) rfl (by decide) hn (by omega) (by simp only [win]; omega) (by have := flat_take hq; have := flat_le (txs B.pages.xs) (g.toNat + 1); omega) ?_
    refine sq_nil ?_
    refine ex_then ?_
    refine cw_seq ?_
    refine cw_seq ?_
    refine cw_region ?_
    refine sq_r (ry_move rfl) ?_
    refine sq_r (ry_not rfl) ?_
    refine sq_nil ?_
    refine ex_then ?_
    refine cw_cond rfl (fun h3 => ?_) (fun h3 => ?_)
    ·
     try simp only [Z0, Z1, Z2, Z3, Z4, Z5, Z6, Z7, Z8, Z9] at h3
     have hpp : progP (cv c) xs = xs := by rw [progP, if_neg (by rw [h3]; simp)]
     refine cw_seq ?_
     refine cw_region ?_
     refine sq_r (ry_whole rfl) ?_
     refine sq_storeW rfl rfl ?_
     refine sq_r (ry_assign rfl) ?_
     refine sq_nil ?_
     refine ex_then ?_
     refine cw_ret ?_
     refine ex_pass_ret ?_
     refine ex_ret (.inl rfl) (res_2 rfl (rv_agg rfl) (rv_tmp rfl)) (fun w1 hw => ?_)
     exact ⟨(⟨x18.pages, x18.size, ⟨x18.blocks.sv, x18.blocks.xs.set b.toNat ⟨⟨B.pages.sv, wins rm 0 ((txs B.pages.xs).set g.toNat xs)⟩, B.used + 1, B.worn, B.bad⟩⟩, x18.ops + 1, x18.off, x18.faults⟩ : Cp), by rw [progE, if_pos hk, if_neg (by rw [hoff]; simp), if_neg hw2, if_neg (by rw [h3]; simp)]; rfl, by rw [prog_cv hp18 hBv, hpo, progC, hpp, h3, Bool.false_and, show x18.off = (cv c).off from congrArg CV.off hp18, hoff], (by
      rw [← flat_set hq (by omega)] at hw
      exact frzAll (⟨x18.pages, x18.size, ⟨x18.blocks.sv, x18.blocks.xs.set b.toNat ⟨⟨B.pages.sv, wins rm 0 ((txs B.pages.xs).set g.toNat xs)⟩, B.used + 1, B.worn, B.bad⟩⟩, x18.ops + 1, x18.off, x18.faults⟩ : Cp) (blk_shut (rm := rm) (l := (txs B.pages.xs).set g.toNat xs) (B := ({ B with used := B.used + 1 } : Bk)) (B' := ⟨⟨B.pages.sv, wins rm 0 ((txs B.pages.xs).set g.toNat xs)⟩, B.used + 1, B.worn, B.bad⟩) (sp := B.pages.sv) (ps := B.pages.xs) hBl (hsv _ (by omega)) hn rfl rfl (Keep.mem hw)))⟩
    ·
     try simp only [Z0, Z1, Z2, Z3, Z4, Z5, Z6, Z7, Z8, Z9] at h3
     have hpp : progP (cv c) xs = hurt (~~~(strikesF (cv c)).1.mask) xs := by rw [progP, if_pos h3]
     have hm0 : hurt (~~~(strikesF (cv c)).1.mask) (xs.take 0) ++ xs.drop 0 = xs := by simp [hurt]
     refine cw_skip ?_
     refine ex_then ?_
     refine cw_seq ?_
     refine cw_seq ?_
     refine cw_region ?_
     refine sq_r (ry_field (o' := 1) rfl rfl) ?_
     refine sq_r (ry_cellc rfl) ?_
     refine sq_r (ry_move rfl) ?_
     refine sq_nil ?_
     refine ex_then ?_
     refine cw_block ?_
     refine cw_loop (X := Nat) (fun zz => [(96, .int .i64 (zz : Nat)), (2, .int .i64 g), (8, .pointer (some ⟨b8, 0, none⟩)), (10, .pointer (some ⟨b10, 0, none⟩)), (11, .pointer (some ⟨x18.blocks.sv.b, x18.blocks.sv.o + b.toNat * 4, none⟩)), (12, .pointer (some ⟨b12, 0, none⟩)), (95, .int .i64 c.size)]) (fun zz => [blk b12 (ftcells (strikesF (cv c)).1) 94, own (scells (τ := UInt8)) 1 B.pages.sv B.pages.xs, own benc 1 rm ((txs B.pages.xs).set g.toNat (hurt (~~~(strikesF (cv c)).1.mask) (xs.take zz) ++ xs.drop zz)).flatten, own bkcells 4 x18.blocks.sv (x18.blocks.xs.set b.toNat ({ B with used := B.used + 1 } : Bk)), Ent.all ((x18.blocks.xs.eraseIdx b.toNat).map fun b : Bk => pgE b.pages), own ftcells 4 x18.faults.sv x18.faults.xs, blk b10 (cpcells (⟨x18.pages, x18.size, x18.blocks, (x18.ops + 1), x18.off, x18.faults⟩ : Cp)) 25, blk b8 (cpcells zCp) 25, blk b4 (cpcells c) 25]) (fun zz => zz ≤ xs.length) (fun zz => xs.length - zz) 0 (Nat.zero_le _) (Sub.cons rfl (Sub.cons rfl (Sub.cons rfl (Sub.cons rfl (Sub.cons rfl (Sub.cons rfl (Sub.cons rfl (Sub.nil _)))))))) (fun w hw => by
      rw [hm0, flat_set hq (by omega)]; exact Keep.mem hw) ?_
     rintro i hi1
     refine cw_seq ?_
     refine cw_region ?_
     refine sq_r (ry_int rfl rfl rfl) ?_
     refine sq_nil ?_
     refine ex_then ?_
     refine cw_seq ?_
     refine cw_cond rfl (fun h4 => ?_) (fun h4 => ?_)
     ·
      try simp only [Z0, Z1, Z2, Z3, Z4, Z5, Z6, Z7, Z8, Z9] at h4
      have hrl : (hurt (~~~(strikesF (cv c)).1.mask) (xs.take i) ++ xs.drop i).length = xs.length := hurt_len (by omega)
      obtain ⟨z, hz⟩ := get_some (xs := xs) (i := i) (by omega)
      have hzr : ((txs B.pages.xs).set g.toNat (hurt (~~~(strikesF (cv c)).1.mask) (xs.take i) ++ xs.drop i)).flatten[((txs B.pages.xs).take g.toNat).flatten.length + i]? = Option.some z := by
       have h9 := flat_get (l := (txs B.pages.xs).set g.toNat (hurt (~~~(strikesF (cv c)).1.mask) (xs.take i) ++ xs.drop i)) (i := g.toNat) (j := i) (List.getElem?_set_self (by omega)) (by omega)
       rw [take_setq] at h9
       rw [h9, hurt_get (by omega), hz]
      refine cw_skip ?_
      refine ex_then ?_
      refine cw_seq ?_
      refine cw_block ?_
      refine cw_seq ?_
      refine cw_region ?_
      refine sq_r (ry_move rfl) ?_
      refine sq_r (ry_assign rfl) ?_
      refine sq_nil ?_
      refine ex_then ?_
      refine cw_lin [15, 1009] [[], [], [], [], [], [], [], [], [], [], [], [], [], [9], [9], [9]] [0, 1, 2, 3, 4, 5, 6, 7, 8, 9, 10, 11, 12, 13, 14, 15] [own (scells (τ := UInt8)) 1 B.pages.sv B.pages.xs, own bkcells 4 x18.blocks.sv (x18.blocks.xs.set b.toNat ({ B with used := B.used + 1 } : Bk)), blk b12 (ftcells (strikesF (cv c)).1) 94] (fun _ hw => Keep.mem hw) (by kernel_rfl) (by kernel_rfl) ?_
      refine ln_r rfl (ry_move rfl) ?_
      refine ln_r rfl (ry_nilp rfl) ?_
      refine ln_r rfl (ry_field rfl rfl) ?_
      refine ln_r rfl (Ry.to (v' := B.pages.sv.val) (ry_elemcH (j := 0) rfl b.toNat hB1 rfl (by decide)) rfl) ?_
      refine ln_r rfl (ry_move rfl) ?_
      refine ln_r rfl (ry_idxH rfl rfl g.toNat (by omega) (by omega)) ?_
      refine ln_r rfl (Ry.to (v' := (win rm ((txs B.pages.xs).take g.toNat).flatten.length (((txs B.pages.xs).take g.toNat).flatten.length + q.length)).val) (ry_elemcH (j := 0) rfl g.toNat hPx rfl (by decide)) rfl) ?_
      refine ln_r rfl (ry_move rfl) ?_
      obtain ⟨e107, he107⟩ := get_some (xs := q) (i := i) (by omega)
      refine ln_r rfl (ry_idxSv (s := (win rm ((txs B.pages.xs).take g.toNat).flatten.length (((txs B.pages.xs).take g.toNat).flatten.length + q.length))) (i := i) rfl rfl rfl (win_ok hn hs (by omega)) (by simp only [win]; omega)) ?_
      refine lt_r rfl (ry_elemcH (s := rm) (enc := benc) (c := 1) (xs := ((txs B.pages.xs).set g.toNat (hurt (~~~(strikesF (cv c)).1.mask) (xs.take i) ++ xs.drop i)).flatten) (a := z) (j := 0) (v := .int .u8 z.toNat) rfl (((txs B.pages.xs).take g.toNat).flatten.length + i) hzr (by rw [win_o (by omega)]; omega) (by decide)) ?_
      refine ln_r rfl (ry_field (o' := 3) rfl rfl) ?_
      refine ln_r rfl (ry_cellc rfl) ?_
      refine ln_r rfl (ry_not8 rfl) ?_
      refine ln_r rfl (ry_or8b rfl rfl) ?_
      obtain ⟨e113, he113⟩ := get_some (xs := q) (i := i) (by omega)
      refine ln_r rfl (ry_idxSv (s := (win rm ((txs B.pages.xs).take g.toNat).flatten.length (((txs B.pages.xs).take g.toNat).flatten.length + q.length))) (i := i) rfl rfl rfl (win_ok hn hs (by omega)) (by simp only [win]; omega)) ?_
      refine ln_st rfl (st_storeS (s := rm) (n := 1) (k := ((txs B.pages.xs).take g.toNat).flatten.length + i) (j := 0) (a := z) (a' := z ||| (~~~(strikesF (cv c)).1.mask)) (xs := ((txs B.pages.xs).set g.toNat (hurt (~~~(strikesF (cv c)).1.mask) (xs.take i) ++ xs.drop i)).flatten) (enc := benc) (c := 1) (v := .int .u8 (z ||| (~~~(strikesF (cv c)).1.mask)).toNat) (by kernel_rfl) rfl rfl (by rw [win_o (by omega)]; omega) hzr (by simp [Value.cells, Value.oneCell']) rfl (by omega) (by rfl) ⟨fun _ hw => Keep.mem hw, ?_⟩)
      refine ln_nil ?_
      refine ex_block ?_
      refine ex_then ?_
      refine cw_region ?_
      refine sq_r (ry_add rfl rfl (by omega)) ?_
      refine sq_r (ry_move rfl) ?_
      refine sq_nil ?_
      exact ex_again (x := (i)) (i + 1) (by first | omega | (simp only []; omega)) (by first | omega | (simp only []; omega)) (Sub.cons rfl (Sub.cons rfl (Sub.cons rfl (Sub.cons rfl (Sub.cons rfl (Sub.cons rfl (Sub.cons rfl (Sub.nil _)))))))) (fun w hw => by
       rw [room_step hq hz]; exact Keep.mem hw)
     ·
      try simp only [Z0, Z1, Z2, Z3, Z4, Z5, Z6, Z7, Z8, Z9] at h4
      obtain rfl : i = xs.length := by omega
      have hfin : hurt (~~~(strikesF (cv c)).1.mask) (xs.take xs.length) ++ xs.drop xs.length = hurt (~~~(strikesF (cv c)).1.mask) xs := by rw [List.take_length, List.drop_length, List.append_nil]
      refine cw_exit ?_
      refine ex_pass_exit ?_
      refine ex_pass_exit ?_
      refine ex_block_hit ?_
      refine ex_then ?_
      refine cw_seq ?_
      refine cw_region ?_
      refine sq_r (ry_whole rfl) ?_
      refine sq_y (yl_callC rfl trivial) ?_
      refine sq_r (ry_move rfl) ?_
      refine sq_r (ry_extract (v := .bool (((strikesF (cv c)).1).cut)) rfl rfl) ?_
      refine sq_r (ry_extract (v := .int .i64 (struckE ((strikesF (cv c)).1))) rfl rfl) ?_
      refine sq_r (ry_assign rfl) ?_
      refine sq_r (ry_assign rfl) ?_
      refine sq_nil ?_
      refine ex_then ?_
      refine cw_seq ?_
      refine cw_region ?_
      refine sq_r (ry_move rfl) ?_
      refine sq_r (ry_field (o' := 4) rfl rfl) ?_
      refine sq_store (cs' := cpcells (⟨x18.pages, x18.size, x18.blocks, (x18.ops + 1), ((strikesF (cv c)).1).cut, x18.faults⟩ : Cp)) rfl rfl (by show 4 < 6; decide) (by first | rfl | exact Sv.one _) rfl ?_
      refine sq_nil ?_
      refine ex_then ?_
      refine cw_seq ?_
      refine cw_region ?_
      refine sq_r (ry_whole rfl) ?_
      refine sq_r (ry_move rfl) ?_
      refine sq_storeW rfl rfl ?_
      refine sq_r (ry_assign rfl) ?_
      refine sq_nil ?_
      refine ex_then ?_
      refine cw_ret ?_
      refine ex_ret (.inl rfl) (res_2 rfl (rv_agg rfl) (rv_tmp rfl)) (fun w1 hw => ?_)
      exact ⟨(⟨x18.pages, x18.size, ⟨x18.blocks.sv, x18.blocks.xs.set b.toNat ⟨⟨B.pages.sv, wins rm 0 ((txs B.pages.xs).set g.toNat (hurt (~~~(strikesF (cv c)).1.mask) xs))⟩, B.used + 1, B.worn, B.bad⟩⟩, x18.ops + 1, (strikesF (cv c)).1.cut, x18.faults⟩ : Cp), by rw [progE, if_pos hk, if_neg (by rw [hoff]; simp), if_neg hw2, if_pos h3]; rfl, by rw [prog_cv hp18 hBv, hpo, progC, hpp, h3, Bool.true_and], (by
       rw [hfin] at hw
       have hhl : (hurt (~~~(strikesF (cv c)).1.mask) xs).length = xs.length := by rw [hurt, List.length_map]
       exact frzAll (⟨x18.pages, x18.size, ⟨x18.blocks.sv, x18.blocks.xs.set b.toNat ⟨⟨B.pages.sv, wins rm 0 ((txs B.pages.xs).set g.toNat (hurt (~~~(strikesF (cv c)).1.mask) xs))⟩, B.used + 1, B.worn, B.bad⟩⟩, x18.ops + 1, (strikesF (cv c)).1.cut, x18.faults⟩ : Cp) (blk_shut (rm := rm) (l := (txs B.pages.xs).set g.toNat (hurt (~~~(strikesF (cv c)).1.mask) xs)) (B := ({ B with used := B.used + 1 } : Bk)) (B' := ⟨⟨B.pages.sv, wins rm 0 ((txs B.pages.xs).set g.toNat (hurt (~~~(strikesF (cv c)).1.mask) xs))⟩, B.used + 1, B.worn, B.bad⟩) (sp := B.pages.sv) (ps := B.pages.xs) hBl (hsv _ (by omega)) hn rfl rfl (Keep.mem hw)))⟩
instance cprogram_i {w0 : World} {L : List Ent} {c : Cp} {b : Int} {g : Int} {x : Sv} {xs : List UInt8} [hc : HdD w0 L c] [hx : HdE w0 L benc 1 x xs] : FnC Tryz.prog 149 w0 L [.agg (cpcells c), .int .i64 b, .int .i64 g, x.val] (Cp) (fun zz => .tuple #[.agg (cpcells zz), .int .i64 (progE (cv c) b g xs)]) (fun zz => fz zz :: L) (fun zz => cv zz = programF (cv c) b g xs) (smallC c) := ⟨fun hp w hw => (cprogram_c w c b g x xs (hc.h w hw) (hx.h w hw) hp).mono fun e w' ⟨x, h1, h2, h3⟩ => ⟨x, h1, h2, hw.call h3⟩⟩

end Go.Proofs.YtaipiecplldinaaGreat

/- A block erased. -/
namespace Go.Proofs.YtaipiecplldinaaGreat
open Go.Eng Go.Kb
open Go.RowKit
theorem cerase_c (w : World) (c : Cp) (b : Int) (hc : Deep.good (hp w) c) (hpre : smallC c) : Calls Tryz.prog 145 #[.agg (cpcells c), .int .i64 b] w fun e w' => ∃ zz : Cp, e = .returned (.tuple #[.agg (cpcells zz), .int .i64 (eraseE (cv c) b)]) ∧ (cv zz = eraseF (cv c) b) ∧ Mem w [fz zz] w' := by
 have ghc : GvD w c := ⟨hc⟩
 have hsm : smallC c := hpre
 obtain ⟨hp1, hp2, hp3⟩ := hpre
 have hct : ctop = 1099511627776 := rfl
 have hbe := blkAt_eq (c := c) (b := b)
 have hwe : (c.blocks.xs.getD b.toNat zBk).worn = (blkAt (cv c) b).worn := congrArg BV.worn hbe
 refine calls_of (args := [_, _]) Tryz.func145 rfl Tryz.ntmps145 rfl ?_
 change Cw _ _ _ _ _ [(0, .agg (cpcells c)), (1, .int .i64 b)] []
 refine cw_seq ?_
 refine cw_region ?_
 refine sq_boxA rfl fun b2 => ?_
 refine sq_allocA fun b4 => ?_
 refine sq_r (ry_assign rfl) ?_
 refine sq_nil ?_
 refine ex_then ?_
 refine cw_seq ?_
 refine cw_region ?_
 refine sq_r (ry_whole rfl) ?_
 refine sq_callC rfl (by assumption) fun x16 hp16 => ?_
 refine sq_allocA fun b6 => ?_
 refine sq_storeW rfl rfl ?_
 refine sq_nil ?_
 refine ex_then ?_
 refine cw_seq ?_
 refine cw_seq ?_
 refine cw_region ?_
 refine sq_r (ry_whole rfl) ?_
 refine sq_r (ry_move rfl) ?_
 refine sq_y (yl_callC rfl trivial) ?_
 refine sq_r (ry_not rfl) ?_
 refine sq_r (ry_move rfl) ?_
 refine sq_gf rfl rfl rfl (fun hg => (Ry.yl (ry_field (o' := 3) rfl rfl))) ?_
 refine sq_gf rfl rfl rfl (fun hg => (Ry.yl (ry_cellc (ev_c hg rfl)))) ?_
 refine sq_gf rfl rfl rfl (fun hg => (Ry.yl (ry_int (ev_c hg rfl) rfl rfl))) ?_
 refine sq_r (ry_or rfl rfl rfl) ?_
 refine sq_r (ry_move rfl) ?_
 refine sq_gf rfl rfl rfl (fun hg => (Ry.yl (ry_field (o' := 2) rfl rfl))) ?_
 refine sq_gf rfl rfl rfl (fun hg => (Ry.yl (ry_cellc (ev_c hg rfl)))) ?_
 refine sq_gf rfl rfl rfl (fun hg => (Ry.yl (ry_move rfl))) ?_
 refine sq_gf rfl rfl rfl (fun hg => (Ry.yl (ry_idxH (ev_c hg rfl) (ev_c hg rfl) b.toNat (by simp only [Z0, Z1, Z2, Z3, Z4, Z5, Z6, Z7, Z8, Z9] at hg; have := (has_lt hg.1).1; omega) (by simp only [Z0, Z1, Z2, Z3, Z4, Z5, Z6, Z7, Z8, Z9] at hg; exact (has_lt hg.1).2)))) ?_
 refine sq_gf rfl rfl rfl (fun hg => (Ry.yl (ry_field (ev_c hg rfl) rfl))) ?_
 refine sq_gf rfl rfl rfl (fun hg => (Ry.yl (ry_elemcH (j := 2) (ev_c hg rfl) b.toNat (get_getD (xs := c.blocks.xs) (i := b.toNat) (d := zBk) (by simp only [Z0, Z1, Z2, Z3, Z4, Z5, Z6, Z7, Z8, Z9] at hg; exact (has_lt hg.1).2)) rfl (by decide)))) ?_
 refine sq_gf rfl rfl rfl (fun hg => (Ry.yl (ry_int (ev_c hg rfl) rfl rfl))) ?_
 refine sq_r (ry_or rfl rfl rfl) ?_
 refine sq_nil ?_
 refine ex_then ?_
 refine cw_cond rfl (fun h0 => ?_) (fun h0 => ?_)
 ·
  try simp only [Z0, Z1, Z2, Z3, Z4, Z5, Z6, Z7, Z8, Z9] at h0
  have hz : ¬ eraseOk (cv c) b = true := fun hk => by
   obtain ⟨k1, k2, k3⟩ := eraseOk_iff.1 hk
   rw [k1] at h0
   simp only [cv] at k2
   simp only [Bool.true_eq_false, false_or] at h0
   omega
  refine cw_seq ?_
  refine cw_region ?_
  refine sq_r (ry_whole rfl) ?_
  refine sq_storeW rfl rfl ?_
  refine sq_r (ry_assign rfl) ?_
  refine sq_nil ?_
  refine ex_then ?_
  refine cw_ret ?_
  refine ex_pass_ret ?_
  refine ex_ret (.inl rfl) (res_2 rfl (rv_agg rfl) (rv_tmp rfl)) (fun w1 hw => ?_)
  exact ⟨x16, by rw [eraseE, if_neg hz], by rw [hp16, eraseF, if_neg (fun h => hz h.1)], frzAll x16 (Keep.mem hw)⟩
 ·
  try simp only [Z0, Z1, Z2, Z3, Z4, Z5, Z6, Z7, Z8, Z9] at h0
  have hk : eraseOk (cv c) b = true := by
   cases k1 : hasF (cv c) b with
   | false => rw [k1] at h0; simp at h0
   | true =>
    rw [k1] at h0
    simp only [Bool.true_eq_false, false_or] at h0
    exact eraseOk_iff.2 ⟨k1, by simp only [cv]; omega, by omega⟩
  have hh := (eraseOk_iff.1 hk).1
  have hbb := (hasF_iff.1 hh).2
  have hbl : x16.blocks.xs.length = c.blocks.xs.length := by have := congrArg (fun v : CV => v.blocks.length) hp16; simpa only [cv, bvs_length] using this
  have hol : x16.ops = c.ops := congrArg CV.ops hp16
  have hcb : (cv c).blocks.length = c.blocks.xs.length := bvs_length _
  obtain ⟨B, hB⟩ := get_some (xs := x16.blocks.xs) (i := b.toNat) (by omega)
  have hBl : b.toNat < x16.blocks.xs.length := (List.getElem?_eq_some_iff.1 hB).1
  have hBv : bv B = blkAt (cv c) b := by
   have h1 := blkAt_get hh
   have h2 := bvs_get hB
   rw [show bvs x16.blocks.xs = (cv c).blocks from congrArg CV.blocks hp16, h1] at h2
   exact (Option.some.inj h2).symm
  have hBo : bkOk c.pages c.size (bv B) = true := by rw [hBv]; exact blkAt_ok hh
  obtain ⟨o1, o2, o3, o4, o5, o6⟩ := bkOk_iff.1 hBo
  have hso := soundF_iff.1 (chipOk_iff.1 (hasF_iff.1 hh).1).1
  have hog := (chipOk_iff.1 (hasF_iff.1 hh).1).2.1
  simp only [bv, cv] at o1 o2 o3 o4 o5 o6 hso hog
  have hTl := txs_length B.pages.xs
  obtain ⟨_, k2, k3⟩ := eraseOk_iff.1 hk
  rw [← hBv] at k3
  simp only [cv, bv] at k2 k3
  refine cw_skip ?_
  refine ex_then ?_
  refine cw_seq ?_
  refine cw_seq ?_
  refine cw_region ?_
  refine sq_r (ry_field (o' := 4) rfl rfl) ?_
  refine sq_r (ry_cellc rfl) ?_
  refine sq_nil ?_
  refine ex_then ?_
  refine cw_cond rfl (fun h1 => ?_) (fun h1 => ?_)
  ·
   try simp only [Z0, Z1, Z2, Z3, Z4, Z5, Z6, Z7, Z8, Z9] at h1
   refine cw_seq ?_
   refine cw_region ?_
   refine sq_r (ry_whole rfl) ?_
   refine sq_storeW rfl rfl ?_
   refine sq_r (ry_assign rfl) ?_
   refine sq_nil ?_
   refine ex_then ?_
   refine cw_ret ?_
   refine ex_pass_ret ?_
   refine ex_ret (.inl rfl) (res_2 rfl (rv_agg rfl) (rv_tmp rfl)) (fun w1 hw => ?_)
   exact ⟨x16, by rw [eraseE, if_pos hk, if_pos (show (cv c).off = true from h1)], by rw [hp16, eraseF, if_neg (fun h => absurd (h1.symm.trans h.2.1) (by simp))], frzAll x16 (Keep.mem hw)⟩
  ·
   try simp only [Z0, Z1, Z2, Z3, Z4, Z5, Z6, Z7, Z8, Z9] at h1
   have hoff : (cv c).off = false := h1
   refine cw_skip ?_
   refine ex_then ?_
   refine cw_seq ?_
   refine cw_region ?_
   refine sq_r (ry_field (o' := 2) rfl rfl) ?_
   refine sq_r (ry_cellc rfl) ?_
   refine sq_r (ry_move rfl) ?_
   refine sq_r (ry_idxH rfl rfl b.toNat (by omega) hBl) ?_
   refine sq_r (ry_assign rfl) ?_
   refine sq_nil ?_
   refine ex_then ?_
   refine cw_seq ?_
   refine cw_seq ?_
   refine cw_region ?_
   refine sq_r (ry_move rfl) ?_
   refine sq_r (ry_nilp rfl) ?_
   refine sq_r (ry_field rfl rfl) ?_
   refine sq_r (ry_elemcH (j := 3) rfl b.toNat hB rfl (by decide)) ?_
   refine sq_nil ?_
   refine ex_then ?_
   refine cw_cond rfl (fun h2 => ?_) (fun h2 => ?_)
   ·
    try simp only [Z0, Z1, Z2, Z3, Z4, Z5, Z6, Z7, Z8, Z9] at h2
    have hw2 : (blkAt (cv c) b).bad = true := by rw [← hBv]; exact h2
    refine cw_seq ?_
    refine cw_region ?_
    refine sq_r (ry_whole rfl) ?_
    refine sq_storeW rfl rfl ?_
    refine sq_r (ry_assign rfl) ?_
    refine sq_nil ?_
    refine ex_then ?_
    refine cw_ret ?_
    refine ex_pass_ret ?_
    refine ex_ret (.inl rfl) (res_2 rfl (rv_agg rfl) (rv_tmp rfl)) (fun w1 hw => ?_)
    exact ⟨x16, by rw [eraseE, if_pos hk, if_neg (by rw [hoff]; simp), if_pos hw2], by rw [hp16, eraseF, if_neg (fun h => absurd (hw2.symm.trans h.2.2) (by simp))], frzAll x16 (Keep.mem hw)⟩
   ·
    try simp only [Z0, Z1, Z2, Z3, Z4, Z5, Z6, Z7, Z8, Z9] at h2
    have hw2 : (blkAt (cv c) b).bad = false := by rw [← hBv]; exact h2
    have hne : B.pages.xs ≠ [] := fun e => by
     have h9 : (txs B.pages.xs).length = 0 := by rw [e]; rfl
     omega
    have hB1 : (x16.blocks.xs.set b.toNat ({ B with worn := B.worn + 1 } : Bk))[b.toNat]? = Option.some ({ B with worn := B.worn + 1 } : Bk) := List.getElem?_set_self hBl
    have hpo : eraseF (cv c) b = eraseC (cv c) b := by
     rw [eraseF, if_pos ⟨hk, hoff, hw2⟩]
    have hfE : ∀ x ∈ (txs B.pages.xs), ((fun _ : List UInt8 => blankP c.size) x).length = x.length := fun x hx => by have := o6 x hx; simp only [blankP, List.length_replicate]; omega
    have hfH : ∀ x ∈ (txs B.pages.xs), ((hurt (strikesF (cv c)).1.mask) x).length = x.length := fun x _ => by rw [hurt, List.length_map]
    refine cw_skip ?_
    refine ex_then ?_
    refine cw_seq ?_
    refine cw_ex (pr := fun rm : Sv => rm.nil = false ∧ rm.sp = none ∧ B.pages.xs = wins rm 0 (txs B.pages.xs)) (fun rm : Sv => [own (scells (τ := UInt8)) 1 B.pages.sv B.pages.xs, own benc 1 rm (txs B.pages.xs).flatten, own bkcells 4 x16.blocks.sv x16.blocks.xs, Ent.all ((x16.blocks.xs.eraseIdx b.toNat).map fun b : Bk => pgE b.pages), own ftcells 4 x16.faults.sv x16.faults.xs, blk b6 (cpcells x16) 25, blk b4 (cpcells zCp) 25, blk b2 (cpcells c) 25]) (fun w hw => blk_open hB hne (Keep.mem hw)) fun rm hrm => ?_
    obtain ⟨hn, hs, hwn⟩ := hrm
    have hsvM : ∀ f : List UInt8 → List UInt8, (∀ x ∈ (txs B.pages.xs), (f x).length = x.length) → B.pages.xs.map (fun x => x.sv) = (wins rm 0 ((txs B.pages.xs).map f)).map (fun x => x.sv) := fun f hf => (congrArg (List.map fun x : Sl UInt8 => x.sv) hwn).trans (map_sv hf)
    refine cw_region ?_
    refine sq_r (ry_whole rfl) ?_
    refine sq_y (yl_callC rfl (by omega)) ?_
    refine sq_r (ry_move rfl) ?_
    refine sq_r (ry_extract (v := .agg (ftcells ((strikesF (cv c)).1))) rfl rfl) ?_
    refine sq_r (ry_extract (v := .bool ((strikesF (cv c)).2)) rfl rfl) ?_
    refine sq_allocA fun b8 => ?_
    refine sq_storeW rfl rfl ?_
    refine sq_r (ry_assign rfl) ?_
    refine sq_nil ?_
    refine ex_then ?_
    refine cw_seq ?_
    refine cw_region ?_
    refine sq_r (ry_field (o' := 3) rfl rfl) ?_
    refine sq_r (ry_cellc rfl) ?_
    refine sq_r (ry_add rfl rfl (by omega)) ?_
    refine sq_r (ry_field (o' := 3) rfl rfl) ?_
    refine sq_store (cs' := cpcells (⟨x16.pages, x16.size, x16.blocks, (x16.ops + 1), x16.off, x16.faults⟩ : Cp)) rfl rfl (by show 3 < 6; decide) (by first | rfl | exact Sv.one _) rfl ?_
    refine sq_nil ?_
    refine ex_then ?_
    refine cw_seq ?_
    refine cw_region ?_
    refine sq_r (ry_move rfl) ?_
    refine sq_r (ry_nilp rfl) ?_
    refine sq_r (ry_field rfl rfl) ?_
    refine sq_r (ry_elemcH (j := 2) rfl b.toNat hB rfl (by decide)) ?_
    refine sq_r (ry_add rfl rfl (by omega)) ?_
    refine sq_r (ry_nilp rfl) ?_
    refine sq_r (ry_field rfl rfl) ?_
    refine sq_storeS (s := x16.blocks.sv) (n := 1) (k := b.toNat) (j := 2) (a := B) (a' := ({ B with worn := B.worn + 1 } : Bk)) (xs := x16.blocks.xs) (enc := bkcells) (c := 4) (v := .int .i64 (B.worn + 1)) (by kernel_rfl) rfl rfl rfl hB (by simp [Value.cells, Value.oneCell']) (by rfl) (by decide) (by rfl) ?_
    try simp only [List.set_set]
    refine sq_nil ?_
    refine ex_then ?_
    refine cw_seq ?_
    refine cw_seq ?_
    refine cw_region ?_
    refine sq_r (ry_move rfl) ?_
    refine sq_r (ry_not rfl) ?_
    refine sq_nil ?_
    refine ex_then ?_
    refine cw_cond rfl (fun h3 => ?_) (fun h3 => ?_)
    ·
     try simp only [Z0, Z1, Z2, Z3, Z4, Z5, Z6, Z7, Z8, Z9] at h3
     have hpp : erasePg (cv c) (txs B.pages.xs) = (txs B.pages.xs).map (fun _ : List UInt8 => blankP c.size) := by rw [erasePg, if_neg (by rw [h3]; simp)]; rfl
     have hB2 : (x16.blocks.xs.set b.toNat ({ B with worn := B.worn + 1, used := 0 } : Bk))[b.toNat]? = Option.some ({ B with worn := B.worn + 1, used := 0 } : Bk) := List.getElem?_set_self hBl
     refine cw_seq ?_
     refine cw_region ?_
     refine sq_r (ry_move rfl) ?_
     refine sq_r (ry_nilp rfl) ?_
     refine sq_r (ry_field rfl rfl) ?_
     refine sq_storeS (s := x16.blocks.sv) (n := 1) (k := b.toNat) (j := 1) (a := ({ B with worn := B.worn + 1 } : Bk)) (a' := ({ B with worn := B.worn + 1, used := 0 } : Bk)) (xs := (x16.blocks.xs.set b.toNat ({ B with worn := B.worn + 1 } : Bk))) (enc := bkcells) (c := 4) (v := .int .i64 0) (by kernel_rfl) rfl rfl rfl hB1 (by simp [Value.cells, Value.oneCell']) (by rfl) (by decide) (by rfl) ?_
     try simp only [List.set_set]
     refine sq_nil ?_
     refine ex_then ?_
     refine cw_seq ?_
     refine cw_seq ?_
     refine cw_region ?_
     refine sq_r (ry_field (o' := 0) rfl rfl) ?_
     refine sq_r (ry_cellc rfl) ?_
     refine sq_r (ry_move rfl) ?_
     refine sq_nil ?_
     refine ex_then ?_
     refine cw_block ?_
     refine cw_loop (X := Nat) (fun zz => [(71, .int .i64 (zz : Nat)), (4, .pointer (some ⟨b4, 0, none⟩)), (6, .pointer (some ⟨b6, 0, none⟩)), (7, .pointer (some ⟨x16.blocks.sv.b, x16.blocks.sv.o + b.toNat * 4, none⟩)), (70, .int .i64 c.pages)]) (fun zz => [blk b8 (ftcells (strikesF (cv c)).1) 94, own (scells (τ := UInt8)) 1 B.pages.sv B.pages.xs, own benc 1 rm (mixed (fun _ : List UInt8 => blankP c.size) (txs B.pages.xs) zz).flatten, own bkcells 4 x16.blocks.sv (x16.blocks.xs.set b.toNat ({ B with worn := B.worn + 1, used := 0 } : Bk)), Ent.all ((x16.blocks.xs.eraseIdx b.toNat).map fun b : Bk => pgE b.pages), own ftcells 4 x16.faults.sv x16.faults.xs, blk b6 (cpcells (⟨x16.pages, x16.size, x16.blocks, (x16.ops + 1), x16.off, x16.faults⟩ : Cp)) 25, blk b4 (cpcells zCp) 25, blk b2 (cpcells c) 25]) (fun zz => zz ≤ (txs B.pages.xs).length) (fun zz => (txs B.pages.xs).length - zz) 0 (Nat.zero_le _) (Sub.cons rfl (Sub.cons rfl (Sub.cons rfl (Sub.cons rfl (Sub.cons rfl (Sub.nil _)))))) (fun w hw => by
      rw [mixed_zero]; exact Keep.mem hw) ?_
     rintro k hi1
     refine cw_seq ?_
     refine cw_region ?_
     refine sq_r (ry_int rfl rfl rfl) ?_
     refine sq_nil ?_
     refine ex_then ?_
     refine cw_seq ?_
     refine cw_cond rfl (fun h4 => ?_) (fun h4 => ?_)
     ·
      try simp only [Z0, Z1, Z2, Z3, Z4, Z5, Z6, Z7, Z8, Z9] at h4
      obtain ⟨q, hq⟩ := get_some (xs := (txs B.pages.xs)) (i := k) (by omega)
      have hql := o6 q (List.mem_of_getElem? hq)
      have hPx : B.pages.xs[k]? = Option.some ⟨(win rm ((txs B.pages.xs).take k).flatten.length (((txs B.pages.xs).take k).flatten.length + q.length)), q⟩ := by rw [hwn, wins_txs, wins_get hq, Nat.zero_add]
      refine cw_skip ?_
      refine ex_then ?_
      refine cw_seq ?_
      refine cw_block ?_
      refine cw_seq ?_
      refine cw_region ?_
      refine sq_r (ry_move rfl) ?_
      refine sq_r (ry_assign rfl) ?_
      refine sq_nil ?_
      refine ex_then ?_
      refine cw_region ?_
      refine sq_r (ry_move rfl) ?_
      refine sq_r (ry_nilp rfl) ?_
      refine sq_r (ry_field rfl rfl) ?_
      refine sq_r (Ry.to (v' := B.pages.sv.val) (ry_elemcH (j := 0) rfl b.toNat hB2 rfl (by decide)) rfl) ?_
      refine sq_r (ry_move rfl) ?_
      refine sq_r (ry_idxH rfl rfl k rfl (by omega)) ?_
      refine sq_r (Ry.to (v' := .slice (some ⟨rm.b, rm.o + ((txs B.pages.xs).take k).flatten.length, none⟩) q.length q.length) (ry_elemcH (j := 0) rfl k hPx rfl (by decide)) (win_val hn hs (by omega))) ?_
      refine sq_callC rfl ⟨by have h9 := congrArg List.length (mixed_set (f := (fun _ : List UInt8 => blankP c.size)) hq); have h8 := flat_le (mixed (fun _ : List UInt8 => blankP c.size) (txs B.pages.xs) k) (k + 1); have h7 := flat_take (mixed_get (f := (fun _ : List UInt8 => blankP c.size)) hq); rw [mixed_take hfE (by omega)] at h7; omega, by omega⟩ fun x81 hp81 => ?_
      refine sq_nil ?_
      refine ex_block ?_
      refine ex_then ?_
      refine cw_region ?_
      refine sq_r (ry_add rfl rfl (by omega)) ?_
      refine sq_r (ry_move rfl) ?_
      refine sq_nil ?_
      exact ex_again (x := (k)) (k + 1) (by first | omega | (simp only []; omega)) (by first | omega | (simp only []; omega)) (Sub.cons rfl (Sub.cons rfl (Sub.cons rfl (Sub.cons rfl (Sub.cons rfl (Sub.nil _)))))) (fun w hw => by
       rw [fill_room hq hfE (n := q.length) (by simp only [blankP]; congr 1; omega) rfl]; exact Keep.mem hw)
     ·
      try simp only [Z0, Z1, Z2, Z3, Z4, Z5, Z6, Z7, Z8, Z9] at h4
      refine cw_exit ?_
      refine ex_pass_exit ?_
      refine ex_pass_exit ?_
      refine ex_block_hit ?_
      refine ex_then ?_
      refine cw_seq ?_
      refine cw_region ?_
      refine sq_r (ry_whole rfl) ?_
      refine sq_storeW rfl rfl ?_
      refine sq_r (ry_assign rfl) ?_
      refine sq_nil ?_
      refine ex_then ?_
      refine cw_ret ?_
      refine ex_pass_ret ?_
      refine ex_ret (.inl rfl) (res_2 rfl (rv_agg rfl) (rv_tmp rfl)) (fun w1 hw => ?_)
      exact ⟨(⟨x16.pages, x16.size, ⟨x16.blocks.sv, x16.blocks.xs.set b.toNat ⟨⟨B.pages.sv, wins rm 0 ((txs B.pages.xs).map (fun _ : List UInt8 => blankP c.size))⟩, 0, B.worn + 1, B.bad⟩⟩, x16.ops + 1, x16.off, x16.faults⟩ : Cp), by rw [eraseE, if_pos hk, if_neg (by rw [hoff]; simp), if_neg (by rw [hw2]; simp), if_neg (by rw [h3]; simp)]; rfl, by rw [erase_cv hp16 hBv, hpo, eraseC, ← hBv, show (bv B).pages = (txs B.pages.xs) from rfl, hpp, h3, Bool.false_and, if_neg (by simp), show x16.off = (cv c).off from congrArg CV.off hp16, hoff], (by
       rw [mixed_all (by omega)] at hw
       exact frzAll (⟨x16.pages, x16.size, ⟨x16.blocks.sv, x16.blocks.xs.set b.toNat ⟨⟨B.pages.sv, wins rm 0 ((txs B.pages.xs).map (fun _ : List UInt8 => blankP c.size))⟩, 0, B.worn + 1, B.bad⟩⟩, x16.ops + 1, x16.off, x16.faults⟩ : Cp) (blk_shut (rm := rm) (l := (txs B.pages.xs).map (fun _ : List UInt8 => blankP c.size)) (B := ({ B with worn := B.worn + 1, used := 0 } : Bk)) (B' := ⟨⟨B.pages.sv, wins rm 0 ((txs B.pages.xs).map (fun _ : List UInt8 => blankP c.size))⟩, 0, B.worn + 1, B.bad⟩) (sp := B.pages.sv) (ps := B.pages.xs) hBl (hsvM _ hfE) hn rfl rfl (Keep.mem hw)))⟩
    ·
     try simp only [Z0, Z1, Z2, Z3, Z4, Z5, Z6, Z7, Z8, Z9] at h3
     have hpp : erasePg (cv c) (txs B.pages.xs) = (txs B.pages.xs).map (hurt (strikesF (cv c)).1.mask) := by rw [erasePg, if_pos h3]
     have hB2 : (x16.blocks.xs.set b.toNat ({ B with worn := B.worn + 1, used := c.pages } : Bk))[b.toNat]? = Option.some ({ B with worn := B.worn + 1, used := c.pages } : Bk) := List.getElem?_set_self hBl
     refine cw_skip ?_
     refine ex_then ?_
     refine cw_seq ?_
     refine cw_region ?_
     refine sq_r (ry_move rfl) ?_
     refine sq_r (ry_field (o' := 0) rfl rfl) ?_
     refine sq_r (ry_cellc rfl) ?_
     refine sq_r (ry_nilp rfl) ?_
     refine sq_r (ry_field rfl rfl) ?_
     refine sq_storeS (s := x16.blocks.sv) (n := 1) (k := b.toNat) (j := 1) (a := ({ B with worn := B.worn + 1 } : Bk)) (a' := ({ B with worn := B.worn + 1, used := c.pages } : Bk)) (xs := (x16.blocks.xs.set b.toNat ({ B with worn := B.worn + 1 } : Bk))) (enc := bkcells) (c := 4) (v := .int .i64 c.pages) (by kernel_rfl) rfl rfl rfl hB1 (by simp [Value.cells, Value.oneCell']) (by rfl) (by decide) (by rfl) ?_
     try simp only [List.set_set]
     refine sq_nil ?_
     refine ex_then ?_
     refine cw_seq ?_
     refine cw_seq ?_
     refine cw_region ?_
     refine sq_r (ry_field (o' := 0) rfl rfl) ?_
     refine sq_r (ry_cellc rfl) ?_
     refine sq_r (ry_move rfl) ?_
     refine sq_nil ?_
     refine ex_then ?_
     refine cw_block ?_
     refine cw_loop (X := Nat) (fun zz => [(91, .int .i64 (zz : Nat)), (2, .pointer (some ⟨b2, 0, none⟩)), (4, .pointer (some ⟨b4, 0, none⟩)), (6, .pointer (some ⟨b6, 0, none⟩)), (7, .pointer (some ⟨x16.blocks.sv.b, x16.blocks.sv.o + b.toNat * 4, none⟩)), (8, .pointer (some ⟨b8, 0, none⟩)), (90, .int .i64 c.pages)]) (fun zz => [blk b8 (ftcells (strikesF (cv c)).1) 94, own (scells (τ := UInt8)) 1 B.pages.sv B.pages.xs, own benc 1 rm (mixed (hurt (strikesF (cv c)).1.mask) (txs B.pages.xs) zz).flatten, own bkcells 4 x16.blocks.sv (x16.blocks.xs.set b.toNat ({ B with worn := B.worn + 1, used := c.pages } : Bk)), Ent.all ((x16.blocks.xs.eraseIdx b.toNat).map fun b : Bk => pgE b.pages), own ftcells 4 x16.faults.sv x16.faults.xs, blk b6 (cpcells (⟨x16.pages, x16.size, x16.blocks, (x16.ops + 1), x16.off, x16.faults⟩ : Cp)) 25, blk b4 (cpcells zCp) 25, blk b2 (cpcells c) 25]) (fun zz => zz ≤ (txs B.pages.xs).length) (fun zz => (txs B.pages.xs).length - zz) 0 (Nat.zero_le _) (Sub.cons rfl (Sub.cons rfl (Sub.cons rfl (Sub.cons rfl (Sub.cons rfl (Sub.cons rfl (Sub.cons rfl (Sub.nil _)))))))) (fun w hw => by
      rw [mixed_zero]; exact Keep.mem hw) ?_
     rintro k hk1
     refine cw_seq ?_
     refine cw_region ?_
     refine sq_r (ry_int rfl rfl rfl) ?_
     refine sq_nil ?_
     refine ex_then ?_
     refine cw_seq ?_
     refine cw_cond rfl (fun h5 => ?_) (fun h5 => ?_)
     ·
      try simp only [Z0, Z1, Z2, Z3, Z4, Z5, Z6, Z7, Z8, Z9] at h5
      obtain ⟨q, hq⟩ := get_some (xs := (txs B.pages.xs)) (i := k) (by omega)
      have hql := o6 q (List.mem_of_getElem? hq)
      have hPx : B.pages.xs[k]? = Option.some ⟨(win rm ((txs B.pages.xs).take k).flatten.length (((txs B.pages.xs).take k).flatten.length + q.length)), q⟩ := by rw [hwn, wins_txs, wins_get hq, Nat.zero_add]
      refine cw_skip ?_
      refine ex_then ?_
      refine cw_seq ?_
      refine cw_block ?_
      refine cw_seq ?_
      refine cw_region ?_
      refine sq_r (ry_move rfl) ?_
      refine sq_r (ry_assign rfl) ?_
      refine sq_nil ?_
      refine ex_then ?_
      refine cw_seq ?_
      refine cw_region ?_
      refine sq_r (ry_field (o' := 1) rfl rfl) ?_
      refine sq_r (ry_cellc rfl) ?_
      refine sq_r (ry_move rfl) ?_
      refine sq_nil ?_
      refine ex_then ?_
      refine cw_block ?_
      refine cw_loop (X := Nat) (fun zz => [(96, .int .i64 (zz : Nat)), (2, .pointer (some ⟨b2, 0, none⟩)), (4, .pointer (some ⟨b4, 0, none⟩)), (6, .pointer (some ⟨b6, 0, none⟩)), (7, .pointer (some ⟨x16.blocks.sv.b, x16.blocks.sv.o + b.toNat * 4, none⟩)), (8, .pointer (some ⟨b8, 0, none⟩)), (11, .int .i64 (k : Nat)), (90, .int .i64 c.pages), (91, .int .i64 (k : Nat)), (95, .int .i64 c.size)]) (fun zz => [blk b8 (ftcells (strikesF (cv c)).1) 94, own (scells (τ := UInt8)) 1 B.pages.sv B.pages.xs, own benc 1 rm ((mixed (hurt (strikesF (cv c)).1.mask) (txs B.pages.xs) k).set k (hurt (strikesF (cv c)).1.mask (q.take zz) ++ q.drop zz)).flatten, own bkcells 4 x16.blocks.sv (x16.blocks.xs.set b.toNat ({ B with worn := B.worn + 1, used := c.pages } : Bk)), Ent.all ((x16.blocks.xs.eraseIdx b.toNat).map fun b : Bk => pgE b.pages), own ftcells 4 x16.faults.sv x16.faults.xs, blk b6 (cpcells (⟨x16.pages, x16.size, x16.blocks, (x16.ops + 1), x16.off, x16.faults⟩ : Cp)) 25, blk b4 (cpcells zCp) 25, blk b2 (cpcells c) 25]) (fun zz => zz ≤ q.length) (fun zz => q.length - zz) 0 (Nat.zero_le _) (Sub.cons rfl (Sub.cons rfl (Sub.cons rfl (Sub.cons rfl (Sub.cons rfl (Sub.cons rfl (Sub.cons rfl (Sub.cons rfl (Sub.cons rfl (Sub.cons rfl (Sub.nil _))))))))))) (fun w hw => by
       rw [List.take_zero, List.drop_zero, hurt, List.map_nil, List.nil_append, set_id (mixed_get hq)]; exact Keep.mem hw) ?_
      rintro j hj1
      refine cw_seq ?_
      refine cw_region ?_
      refine sq_r (ry_int rfl rfl rfl) ?_
      refine sq_nil ?_
      refine ex_then ?_
      refine cw_seq ?_
      refine cw_cond rfl (fun h6 => ?_) (fun h6 => ?_)
      ·
       try simp only [Z0, Z1, Z2, Z3, Z4, Z5, Z6, Z7, Z8, Z9] at h6
       have hrl : (hurt (strikesF (cv c)).1.mask (q.take j) ++ q.drop j).length = q.length := hurt_len (by omega)
       obtain ⟨z, hz⟩ := get_some (xs := q) (i := j) (by omega)
       have hzr : ((mixed (hurt (strikesF (cv c)).1.mask) (txs B.pages.xs) k).set k (hurt (strikesF (cv c)).1.mask (q.take j) ++ q.drop j)).flatten[((txs B.pages.xs).take k).flatten.length + j]? = Option.some z := by
        have h9 := flat_get (l := (mixed (hurt (strikesF (cv c)).1.mask) (txs B.pages.xs) k).set k (hurt (strikesF (cv c)).1.mask (q.take j) ++ q.drop j)) (i := k) (j := j) (List.getElem?_set_self (List.getElem?_eq_some_iff.1 (mixed_get (f := (hurt (strikesF (cv c)).1.mask)) hq)).1) (by omega)
        rw [take_setq, mixed_take hfH (by omega)] at h9
        rw [h9, hurt_get (by omega), hz]
       refine cw_skip ?_
       refine ex_then ?_
       refine cw_seq ?_
       refine cw_block ?_
       refine cw_seq ?_
       refine cw_region ?_
       refine sq_r (ry_move rfl) ?_
       refine sq_r (ry_assign rfl) ?_
       refine sq_nil ?_
       refine ex_then ?_
       refine cw_lin [14, 1009] [[], [], [], [], [], [], [], [], [], [], [], [], [9], [9], [9]] [0, 1, 2, 3, 4, 5, 6, 7, 8, 9, 10, 11, 12, 13, 14] [own (scells (τ := UInt8)) 1 B.pages.sv B.pages.xs, own bkcells 4 x16.blocks.sv (x16.blocks.xs.set b.toNat ({ B with worn := B.worn + 1, used := c.pages } : Bk)), blk b8 (ftcells (strikesF (cv c)).1) 94] (fun _ hw => Keep.mem hw) (by kernel_rfl) (by kernel_rfl) ?_
       refine ln_r rfl (ry_move rfl) ?_
       refine ln_r rfl (ry_nilp rfl) ?_
       refine ln_r rfl (ry_field rfl rfl) ?_
       refine ln_r rfl (Ry.to (v' := B.pages.sv.val) (ry_elemcH (j := 0) rfl b.toNat hB2 rfl (by decide)) rfl) ?_
       refine ln_r rfl (ry_move rfl) ?_
       refine ln_r rfl (ry_idxH rfl rfl k rfl (by omega)) ?_
       refine ln_r rfl (Ry.to (v' := (win rm ((txs B.pages.xs).take k).flatten.length (((txs B.pages.xs).take k).flatten.length + q.length)).val) (ry_elemcH (j := 0) rfl k hPx rfl (by decide)) rfl) ?_
       refine ln_r rfl (ry_move rfl) ?_
       obtain ⟨e107, he107⟩ := get_some (xs := q) (i := j) (by omega)
       refine ln_r rfl (ry_idxSv (s := (win rm ((txs B.pages.xs).take k).flatten.length (((txs B.pages.xs).take k).flatten.length + q.length))) (i := j) rfl rfl rfl (win_ok hn hs (by omega)) (by simp only [win]; omega)) ?_
       refine lt_r rfl (ry_elemcH (s := rm) (enc := benc) (c := 1) (xs := ((mixed (hurt (strikesF (cv c)).1.mask) (txs B.pages.xs) k).set k (hurt (strikesF (cv c)).1.mask (q.take j) ++ q.drop j)).flatten) (a := z) (j := 0) (v := .int .u8 z.toNat) rfl (((txs B.pages.xs).take k).flatten.length + j) hzr (by rw [win_o (by omega)]; omega) (by decide)) ?_
       refine ln_r rfl (ry_field (o' := 3) rfl rfl) ?_
       refine ln_r rfl (ry_cellc rfl) ?_
       refine ln_r rfl (ry_or8b rfl rfl) ?_
       obtain ⟨e112, he112⟩ := get_some (xs := q) (i := j) (by omega)
       refine ln_r rfl (ry_idxSv (s := (win rm ((txs B.pages.xs).take k).flatten.length (((txs B.pages.xs).take k).flatten.length + q.length))) (i := j) rfl rfl rfl (win_ok hn hs (by omega)) (by simp only [win]; omega)) ?_
       refine ln_st rfl (st_storeS (s := rm) (n := 1) (k := ((txs B.pages.xs).take k).flatten.length + j) (j := 0) (a := z) (a' := z ||| (strikesF (cv c)).1.mask) (xs := ((mixed (hurt (strikesF (cv c)).1.mask) (txs B.pages.xs) k).set k (hurt (strikesF (cv c)).1.mask (q.take j) ++ q.drop j)).flatten) (enc := benc) (c := 1) (v := .int .u8 (z ||| (strikesF (cv c)).1.mask).toNat) (by kernel_rfl) rfl rfl (by rw [win_o (by omega)]; omega) hzr (by simp [Value.cells, Value.oneCell']) rfl (by omega) (by rfl) ⟨fun _ hw => Keep.mem hw, ?_⟩)
       refine ln_nil ?_
       refine ex_block ?_
       refine ex_then ?_
       refine cw_region ?_
       refine sq_r (ry_add rfl rfl (by omega)) ?_
       refine sq_r (ry_move rfl) ?_
       refine sq_nil ?_
       exact ex_again (x := (j)) (j + 1) (by first | omega | (simp only []; omega)) (by first | omega | (simp only []; omega)) (Sub.cons rfl (Sub.cons rfl (Sub.cons rfl (Sub.cons rfl (Sub.cons rfl (Sub.cons rfl (Sub.cons rfl (Sub.cons rfl (Sub.cons rfl (Sub.cons rfl (Sub.nil _))))))))))) (fun w hw => by
        rw [room_step (mixed_get hq) hz, mixed_take hfH (by omega)]; exact Keep.mem hw)
      ·
       try simp only [Z0, Z1, Z2, Z3, Z4, Z5, Z6, Z7, Z8, Z9] at h6
       obtain rfl : j = q.length := by omega
       refine cw_exit ?_
       refine ex_pass_exit ?_
       refine ex_pass_exit ?_
       refine ex_block_hit ?_
       refine ex_block ?_
       refine ex_then ?_
       refine cw_region ?_
       refine sq_r (ry_add rfl rfl (by omega)) ?_
       refine sq_r (ry_move rfl) ?_
       refine sq_nil ?_
       exact ex_again (x := (k)) (k + 1) (by first | omega | (simp only []; omega)) (by first | omega | (simp only []; omega)) (Sub.cons rfl (Sub.cons rfl (Sub.cons rfl (Sub.cons rfl (Sub.cons rfl (Sub.cons rfl (Sub.cons rfl (Sub.nil _)))))))) (fun w hw => by
        rw [← mixed_set hq]
        rw [List.take_length, List.drop_length, List.append_nil] at hw
        exact Keep.mem hw)
     ·
      try simp only [Z0, Z1, Z2, Z3, Z4, Z5, Z6, Z7, Z8, Z9] at h5
      refine cw_exit ?_
      refine ex_pass_exit ?_
      refine ex_pass_exit ?_
      refine ex_block_hit ?_
      refine ex_then ?_
      refine cw_seq ?_
      refine cw_region ?_
      refine sq_r (ry_whole rfl) ?_
      refine sq_y (yl_callC rfl trivial) ?_
      refine sq_r (ry_move rfl) ?_
      refine sq_r (ry_extract (v := .bool (((strikesF (cv c)).1).cut)) rfl rfl) ?_
      refine sq_r (ry_extract (v := .int .i64 (struckE ((strikesF (cv c)).1))) rfl rfl) ?_
      refine sq_r (ry_assign rfl) ?_
      refine sq_r (ry_assign rfl) ?_
      refine sq_nil ?_
      refine ex_then ?_
      refine cw_seq ?_
      refine cw_region ?_
      refine sq_r (ry_move rfl) ?_
      refine sq_r (ry_field (o' := 4) rfl rfl) ?_
      refine sq_store (cs' := cpcells (⟨x16.pages, x16.size, x16.blocks, (x16.ops + 1), ((strikesF (cv c)).1).cut, x16.faults⟩ : Cp)) rfl rfl (by show 4 < 6; decide) (by first | rfl | exact Sv.one _) rfl ?_
      refine sq_nil ?_
      refine ex_then ?_
      refine cw_seq ?_
      refine cw_region ?_
      refine sq_r (ry_whole rfl) ?_
      refine sq_r (ry_move rfl) ?_
      refine sq_storeW rfl rfl ?_
      refine sq_r (ry_assign rfl) ?_
      refine sq_nil ?_
      refine ex_then ?_
      refine cw_ret ?_
      refine ex_ret (.inl rfl) (res_2 rfl (rv_agg rfl) (rv_tmp rfl)) (fun w1 hw => ?_)
      exact ⟨(⟨x16.pages, x16.size, ⟨x16.blocks.sv, x16.blocks.xs.set b.toNat ⟨⟨B.pages.sv, wins rm 0 ((txs B.pages.xs).map (hurt (strikesF (cv c)).1.mask))⟩, c.pages, B.worn + 1, B.bad⟩⟩, x16.ops + 1, (strikesF (cv c)).1.cut, x16.faults⟩ : Cp), by rw [eraseE, if_pos hk, if_neg (by rw [hoff]; simp), if_neg (by rw [hw2]; simp), if_pos h3]; rfl, by rw [erase_cv hp16 hBv, hpo, eraseC, ← hBv, show (bv B).pages = (txs B.pages.xs) from rfl, hpp, h3, Bool.true_and, if_pos rfl]; rfl, (by
       rw [mixed_all (by omega)] at hw
       exact frzAll (⟨x16.pages, x16.size, ⟨x16.blocks.sv, x16.blocks.xs.set b.toNat ⟨⟨B.pages.sv, wins rm 0 ((txs B.pages.xs).map (hurt (strikesF (cv c)).1.mask))⟩, c.pages, B.worn + 1, B.bad⟩⟩, x16.ops + 1, (strikesF (cv c)).1.cut, x16.faults⟩ : Cp) (blk_shut (rm := rm) (l := (txs B.pages.xs).map (hurt (strikesF (cv c)).1.mask)) (B := ({ B with worn := B.worn + 1, used := c.pages } : Bk)) (B' := ⟨⟨B.pages.sv, wins rm 0 ((txs B.pages.xs).map (hurt (strikesF (cv c)).1.mask))⟩, c.pages, B.worn + 1, B.bad⟩) (sp := B.pages.sv) (ps := B.pages.xs) hBl (hsvM _ hfH) hn rfl rfl (Keep.mem hw)))⟩
instance cerase_i {w0 : World} {L : List Ent} {c : Cp} {b : Int} [hc : HdD w0 L c] : FnC Tryz.prog 145 w0 L [.agg (cpcells c), .int .i64 b] (Cp) (fun zz => .tuple #[.agg (cpcells zz), .int .i64 (eraseE (cv c) b)]) (fun zz => fz zz :: L) (fun zz => cv zz = eraseF (cv c) b) (smallC c) := ⟨fun hp w hw => (cerase_c w c b (hc.h w hw) hp).mono fun e w' ⟨x, h1, h2, h3⟩ => ⟨x, h1, h2, hw.call h3⟩⟩

end Go.Proofs.YtaipiecplldinaaGreat

/- A writer: pages programmed, blocks erased. -/
namespace Go.Proofs.YtaipiecplldinaaGreat
open Go.Eng Go.Kb
open Go.RowKit
theorem clr_build (w : World) : (Instr.build 110 #[(0, .int .i64 1)]).run Tryz.prog w = .ok (.agg (pgcells ⟨1, 0, 0, ⟨Sv.none, []⟩⟩)) w := by kernel_rfl
theorem wmark_c (w0 w : World) (L : List Ent) (k : Nat) (xc : Cp) (xa : Sl Int) (xg : UInt64) (xl : Int) (xy : Bool) (b : Int) (er : Int)  (hw : Mem w0 (blk k (wtcells (⟨⟨xc, xa, xg, xl⟩, xy⟩ : Wtr)) 141 :: fz xc :: L) w) (hpre : chipOk (cv xc) = true) : Calls Tryz.prog 146 #[.pointer (some ⟨k, 0, none⟩), .int .i64 b, .int .i64 er] w fun e w' => ∃ zz : Cp, e = .returned (.tuple #[]) ∧ (cv zz = markW (cv xc) b er) ∧ Mem w0 (blk k (wtcells (⟨⟨zz, xa, xg, xl⟩, xy⟩ : Wtr)) 141 :: fz zz :: L) w' := by
 have hsm : smallC xc := small_of hpre
 refine calls_in (args := [_, _, _]) Tryz.func146 rfl Tryz.ntmps146 rfl hw ?_
 change Cw _ _ _ _ _ [(0, .pointer (some ⟨k, 0, none⟩)), (1, .int .i64 b), (2, .int .i64 er)] (blk k (wtcells (⟨⟨xc, xa, xg, xl⟩, xy⟩ : Wtr)) 141 :: fz xc :: L)
 refine cw_seq ?_
 refine cw_region ?_
 refine sq_r (ry_move rfl) ?_
 refine sq_r (ry_int rfl rfl rfl) ?_
 refine sq_nil ?_
 refine ex_then ?_
 refine cw_cond rfl (fun h0 => ?_) (fun h0 => ?_)
 ·
  try simp only [Z0, Z1, Z2, Z3, Z4, Z5, Z6, Z7, Z8, Z9] at h0
  have hE : markW (cv xc) b er = markF (cv xc) b := by rw [markW, if_pos h0]
  refine cw_region ?_
  refine sq_r (ry_move rfl) ?_
  refine sq_r (ry_move rfl) ?_
  refine sq_r (ry_nilp rfl) ?_
  refine sq_r (ry_field (o' := 0) rfl rfl) ?_
  refine sq_r (ry_field (o' := 0) rfl rfl) ?_
  refine sq_r (Ry.to (v' := .agg (cpcells xc)) (ry_part rfl) rfl) ?_
  refine sq_r (ry_move rfl) ?_
  refine sq_callC rfl (by assumption) fun x16 hp16 => ?_
  refine sq_r (ry_move rfl) ?_
  refine sq_r (ry_extract (v := .agg (cpcells x16)) rfl rfl) ?_
  refine sq_r (ry_extract (v := .int .i64 (markE (cv xc) b)) rfl rfl) ?_
  refine sq_r (ry_nilp rfl) ?_
  refine sq_r (ry_field (o' := 0) rfl rfl) ?_
  refine sq_r (ry_field (o' := 0) rfl rfl) ?_
  refine sq_storeN (cs' := wtcells (⟨⟨x16, xa, xg, xl⟩, xy⟩ : Wtr)) rfl rfl (by show 0 + 6 ≤ 10; decide) rfl ?_
  refine sq_nil ?_
  refine ex_ret (.inr rfl) (res_none rfl) (fun w1 hw => ?_)
  exact ⟨x16, rfl, by rw [hE, hp16], Keep.mem hw⟩
 ·
  try simp only [Z0, Z1, Z2, Z3, Z4, Z5, Z6, Z7, Z8, Z9] at h0
  have hE : markW (cv xc) b er = (cv xc) := by rw [markW, if_neg h0]
  refine cw_skip ?_
  refine ex_ret (.inr rfl) (res_none rfl) (fun w1 hw => ?_)
  exact ⟨xc, rfl, by rw [hE], Keep.mem hw⟩
instance wmark_i {w0 : World} {L R1 L2 : List Ent} {i0 i1 : Nat} {k : Nat} {xc : Cp} {xa : Sl Int} {xg : UInt64} {xl : Int} {xy : Bool} {b : Int} {er : Int} [q0 : Has L k (wtcells (⟨⟨xc, xa, xg, xl⟩, xy⟩ : Wtr)) 141 i0] [d0 : DelI L i0 R1] [q1 : At R1 (fz xc) i1] [d1 : DelI R1 i1 L2]  : FnC Tryz.prog 146 w0 L [.pointer (some ⟨k, 0, none⟩), .int .i64 b, .int .i64 er] (Cp) (fun zz => .tuple #[]) (fun zz => blk k (wtcells (⟨⟨zz, xa, xg, xl⟩, xy⟩ : Wtr)) 141 :: fz zz :: L2) (fun zz => cv zz = markW (cv xc) b er) (chipOk (cv xc) = true) := ⟨fun hp w hw => wmark_c w0 w L2 k xc xa xg xl xy b er (mem_two q0.h d0.h q1.h d1.h hw) hp⟩
theorem wprogram_c (w0 w : World) (L : List Ent) (k : Nat) (xc : Cp) (xa : Sl Int) (xg : UInt64) (xl : Int) (xy : Bool) (b : Int) (y : Sv) (ys : List UInt8) [hy : Hd w0 L y benc 1 ys] (hw : Mem w0 (blk k (wtcells (⟨⟨xc, xa, xg, xl⟩, xy⟩ : Wtr)) 141 :: fz xc :: L) w) (hpre : chipOk (cv xc) = true ∧ 0 ≤ b ∧ b < (cv xc).blocks.length) : Calls Tryz.prog 125 #[.pointer (some ⟨k, 0, none⟩), .int .i64 b, y.val] w fun e w' => ∃ zz : Cp, e = .returned (.int .i64 (progWE (cv xc) b ys)) ∧ (cv zz = progW (cv xc) b ys) ∧ Mem w0 (blk k (wtcells (⟨⟨zz, xa, xg, xl⟩, xy⟩ : Wtr)) 141 :: fz zz :: L) w' := by
 obtain ⟨hk, hb0, hb1⟩ := hpre
 have hsm : smallC xc := small_of hk
 have hbl : (cv xc).blocks.length = xc.blocks.xs.length := bvs_length _
 obtain ⟨B, hB⟩ := get_some (xs := xc.blocks.xs) (i := b.toNat) (by omega)
 have mbB : Mb B xc.blocks := ⟨List.mem_of_getElem? hB⟩
 have hBv := blk_of hB
 have hBo := bkOk_iff.1 ((chipOk_iff.1 hk).2.2.2.2 (bv B) (List.mem_of_getElem? (bvs_get hB)))
 have hso := soundF_iff.1 (chipOk_iff.1 hk).1
 have hBu : (blkAt (cv xc) b).used = B.used := by rw [hBv]; rfl
 simp only [bv, cv] at hBo hso
 refine calls_in (args := [_, _, _]) Tryz.func125 rfl Tryz.ntmps125 rfl hw ?_
 change Cw _ _ _ _ _ [(0, .pointer (some ⟨k, 0, none⟩)), (1, .int .i64 b), (2, y.val)] (blk k (wtcells (⟨⟨xc, xa, xg, xl⟩, xy⟩ : Wtr)) 141 :: fz xc :: L)
 refine cw_seq ?_
 refine cw_region ?_
 refine sq_r (ry_assign rfl) ?_
 refine sq_nil ?_
 refine ex_then ?_
 refine cw_seq ?_
 refine cw_linE [17, 21, 22, 2021, 4017] [[], [], [], [], [], [], [], [], [], [], [], [], [], [], [], [], [], [], [17], [17], [17], [], [17, 21], [17, 21, 22]] [0, 1, 2, 3, 4, 5, 6, 7, 8, 9, 10, 11, 12, 13, 14, 15, 16, 17, 18, 19, 20, 21, 22, 23] [blk k (wtcells (⟨⟨xc, xa, xg, xl⟩, xy⟩ : Wtr)) 141, fz xc] [(21, alM Tryz.prog 25)] (by kernel_rfl) (fun _ hw => Keep.mem hw) (by kernel_rfl) (by kernel_rfl) ?_
 refine ln_r rfl (ry_move rfl) ?_
 refine ln_r rfl (ry_nilp rfl) ?_
 refine ln_r rfl (ry_field (o' := 0) rfl rfl) ?_
 refine ln_r rfl (ry_field (o' := 0) rfl rfl) ?_
 refine ln_r rfl (Ry.to (v' := .agg (cpcells xc)) (ry_part rfl) rfl) ?_
 refine ln_r rfl (ry_move rfl) ?_
 refine ln_r rfl (ry_move rfl) ?_
 refine ln_r rfl (ry_nilp rfl) ?_
 refine ln_r rfl (ry_field (o' := 0) rfl rfl) ?_
 refine ln_r rfl (ry_field (o' := 0) rfl rfl) ?_
 refine ln_r rfl (ry_field (o' := 2) rfl rfl) ?_
 refine ln_r rfl (Ry.to (v' := xc.blocks.sv.val) (ry_cellc rfl) rfl) ?_
 refine ln_r rfl (ry_move rfl) ?_
 refine ln_r rfl (ry_idxH rfl rfl b.toNat (by omega) (by omega)) ?_
 refine ln_r rfl (ry_field rfl rfl) ?_
 refine ln_r rfl (ry_elemcH (j := 1) rfl b.toNat hB rfl (by decide)) ?_
 refine ln_r rfl (ry_move rfl) ?_
 refine ln_callF rfl rfl (by assumption) (fun e x w hw => Keep.mem hw) (Cert.one (i := 21) rfl rfl rfl makes_al (Cert.none rfl)) fun x27 hp27 => ⟨fun _ hw => Keep.mem hw, ?_⟩
 refine ln_r rfl (ry_move rfl) ?_
 refine ln_r rfl (ry_extract (v := .agg (cpcells x27)) rfl rfl) ?_
 refine ln_r rfl (ry_extract (v := .int .i64 (progE (cv xc) b B.used ys)) rfl rfl) ?_
 refine ln_mk (m := alM Tryz.prog 25) rfl rfl makes_al (Cert.none rfl) fun b7 => ?_
 change Ln _ _ _ _ _ _ _ _ (putE _ _ (.pointer (some ⟨b7, 0, none⟩))) (blk b7 (cpcells zCp) 25 :: _) _
 refine ln_st rfl (st_storeW rfl rfl ⟨fun _ hw => Keep.mem hw, ?_⟩)
 refine ln_r rfl (ry_assign rfl) ?_
 refine ln_nil ?_
 refine ex_then ?_
 refine cw_seq ?_
 refine cw_region ?_
 refine sq_r (ry_move rfl) ?_
 refine sq_r (ry_whole rfl) ?_
 refine sq_r (ry_nilp rfl) ?_
 refine sq_r (ry_field (o' := 0) rfl rfl) ?_
 refine sq_r (ry_field (o' := 0) rfl rfl) ?_
 refine sq_storeN (cs' := wtcells (⟨⟨x27, xa, xg, xl⟩, xy⟩ : Wtr)) rfl rfl (by show 0 + 6 ≤ 10; decide) rfl ?_
 refine sq_nil ?_
 refine ex_then ?_
 refine cw_seq ?_
 refine cw_region ?_
 refine sq_r (ry_move rfl) ?_
 refine sq_r (ry_move rfl) ?_
 refine sq_r (ry_move rfl) ?_
 refine sq_callC rfl (by rw [hp27]; exact ok_prog hk _ _ _) fun x38 hp38 => ?_
 refine sq_nil ?_
 refine ex_then ?_
 refine cw_seq ?_
 refine cw_region ?_
 refine sq_r (ry_move rfl) ?_
 refine sq_r (ry_assign rfl) ?_
 refine sq_nil ?_
 refine ex_then ?_
 refine cw_ret ?_
 refine ex_ret (.inl rfl) (res_1 rfl (rv_tmp rfl)) (fun w1 hw => ?_)
 exact ⟨x38, by rw [progWE, hBu], by rw [hp38, hp27, progW, progWE, hBu], Keep.mem hw⟩
instance wprogram_i {w0 : World} {L R1 L2 : List Ent} {i0 i1 : Nat} {k : Nat} {xc : Cp} {xa : Sl Int} {xg : UInt64} {xl : Int} {xy : Bool} {b : Int} {y : Sv} {ys : List UInt8} [q0 : Has L k (wtcells (⟨⟨xc, xa, xg, xl⟩, xy⟩ : Wtr)) 141 i0] [d0 : DelI L i0 R1] [q1 : At R1 (fz xc) i1] [d1 : DelI R1 i1 L2] [hy : Hd w0 L2 y benc 1 ys] : FnC Tryz.prog 125 w0 L [.pointer (some ⟨k, 0, none⟩), .int .i64 b, y.val] (Cp) (fun zz => .int .i64 (progWE (cv xc) b ys)) (fun zz => blk k (wtcells (⟨⟨zz, xa, xg, xl⟩, xy⟩ : Wtr)) 141 :: fz zz :: L2) (fun zz => cv zz = progW (cv xc) b ys) (chipOk (cv xc) = true ∧ 0 ≤ b ∧ b < (cv xc).blocks.length) := ⟨fun hp w hw => wprogram_c w0 w L2 k xc xa xg xl xy b y ys (mem_two q0.h d0.h q1.h d1.h hw) hp⟩
theorem werase_c (w0 w : World) (L : List Ent) (k : Nat) (xc : Cp) (xa : Sl Int) (xg : UInt64) (xl : Int) (xy : Bool) (b : Int)  (hw : Mem w0 (blk k (wtcells (⟨⟨xc, xa, xg, xl⟩, xy⟩ : Wtr)) 141 :: fz xc :: L) w) (hpre : chipOk (cv xc) = true ∧ 0 ≤ b ∧ b < (cv xc).blocks.length) : Calls Tryz.prog 121 #[.pointer (some ⟨k, 0, none⟩), .int .i64 b] w fun e w' => ∃ zz : Cp, e = .returned (.int .i64 (eraseE (cv xc) b)) ∧ (cv zz = erasW (cv xc) b) ∧ Mem w0 (blk k (wtcells (⟨⟨zz, xa, xg, xl⟩, xy⟩ : Wtr)) 141 :: fz zz :: L) w' := by
 obtain ⟨hk, hb0, hb1⟩ := hpre
 have hsm : smallC xc := small_of hk
 have hbl : (cv xc).blocks.length = xc.blocks.xs.length := bvs_length _
 obtain ⟨B, hB⟩ := get_some (xs := xc.blocks.xs) (i := b.toNat) (by omega)
 have mbB : Mb B xc.blocks := ⟨List.mem_of_getElem? hB⟩
 have hBv := blk_of hB
 have hBo := bkOk_iff.1 ((chipOk_iff.1 hk).2.2.2.2 (bv B) (List.mem_of_getElem? (bvs_get hB)))
 have hso := soundF_iff.1 (chipOk_iff.1 hk).1
 have hBu : (blkAt (cv xc) b).used = B.used := by rw [hBv]; rfl
 simp only [bv, cv] at hBo hso
 refine calls_in (args := [_, _]) Tryz.func121 rfl Tryz.ntmps121 rfl hw ?_
 change Cw _ _ _ _ _ [(0, .pointer (some ⟨k, 0, none⟩)), (1, .int .i64 b)] (blk k (wtcells (⟨⟨xc, xa, xg, xl⟩, xy⟩ : Wtr)) 141 :: fz xc :: L)
 refine cw_seq ?_
 refine cw_region ?_
 refine sq_r (ry_assign rfl) ?_
 refine sq_nil ?_
 refine ex_then ?_
 refine cw_seq ?_
 refine cw_region ?_
 refine sq_r (ry_move rfl) ?_
 refine sq_r (ry_nilp rfl) ?_
 refine sq_r (ry_field (o' := 0) rfl rfl) ?_
 refine sq_r (ry_field (o' := 0) rfl rfl) ?_
 refine sq_r (Ry.to (v' := .agg (cpcells xc)) (ry_part rfl) rfl) ?_
 refine sq_r (ry_move rfl) ?_
 refine sq_callC rfl (by assumption) fun x14 hp14 => ?_
 refine sq_r (ry_move rfl) ?_
 refine sq_r (ry_extract (v := .agg (cpcells x14)) rfl rfl) ?_
 refine sq_r (ry_extract (v := .int .i64 (eraseE (cv xc) b)) rfl rfl) ?_
 refine sq_allocA fun b5 => ?_
 refine sq_storeW rfl rfl ?_
 refine sq_r (ry_assign rfl) ?_
 refine sq_nil ?_
 refine ex_then ?_
 refine cw_seq ?_
 refine cw_region ?_
 refine sq_r (ry_move rfl) ?_
 refine sq_r (ry_whole rfl) ?_
 refine sq_r (ry_nilp rfl) ?_
 refine sq_r (ry_field (o' := 0) rfl rfl) ?_
 refine sq_r (ry_field (o' := 0) rfl rfl) ?_
 refine sq_storeN (cs' := wtcells (⟨⟨x14, xa, xg, xl⟩, xy⟩ : Wtr)) rfl rfl (by show 0 + 6 ≤ 10; decide) rfl ?_
 refine sq_nil ?_
 refine ex_then ?_
 refine cw_seq ?_
 refine cw_region ?_
 refine sq_r (ry_move rfl) ?_
 refine sq_r (ry_move rfl) ?_
 refine sq_r (ry_move rfl) ?_
 refine sq_callC rfl (by rw [hp14]; exact ok_erase hk _) fun x25 hp25 => ?_
 refine sq_nil ?_
 refine ex_then ?_
 refine cw_seq ?_
 refine cw_region ?_
 refine sq_r (ry_move rfl) ?_
 refine sq_r (ry_assign rfl) ?_
 refine sq_nil ?_
 refine ex_then ?_
 refine cw_ret ?_
 refine ex_ret (.inl rfl) (res_1 rfl (rv_tmp rfl)) (fun w1 hw => ?_)
 exact ⟨x25, rfl, by rw [hp25, hp14, erasW], Keep.mem hw⟩
instance werase_i {w0 : World} {L R1 L2 : List Ent} {i0 i1 : Nat} {k : Nat} {xc : Cp} {xa : Sl Int} {xg : UInt64} {xl : Int} {xy : Bool} {b : Int} [q0 : Has L k (wtcells (⟨⟨xc, xa, xg, xl⟩, xy⟩ : Wtr)) 141 i0] [d0 : DelI L i0 R1] [q1 : At R1 (fz xc) i1] [d1 : DelI R1 i1 L2]  : FnC Tryz.prog 121 w0 L [.pointer (some ⟨k, 0, none⟩), .int .i64 b] (Cp) (fun zz => .int .i64 (eraseE (cv xc) b)) (fun zz => blk k (wtcells (⟨⟨zz, xa, xg, xl⟩, xy⟩ : Wtr)) 141 :: fz zz :: L2) (fun zz => cv zz = erasW (cv xc) b) (chipOk (cv xc) = true ∧ 0 ≤ b ∧ b < (cv xc).blocks.length) := ⟨fun hp w hw => werase_c w0 w L2 k xc xa xg xl xy b (mem_two q0.h d0.h q1.h d1.h hw) hp⟩
theorem wclear_c (w0 w : World) (L : List Ent) (k : Nat) (xc : Cp) (xa : Sl Int) (xg : UInt64) (xl : Int) (xy : Bool) (b : Int)  (hw : Mem w0 (blk k (wtcells (⟨⟨xc, xa, xg, xl⟩, xy⟩ : Wtr)) 141 :: fz xc :: L) w) (hpre : chipOk (cv xc) = true ∧ 0 ≤ b ∧ b < (cv xc).blocks.length) : Calls Tryz.prog 173 #[.pointer (some ⟨k, 0, none⟩), .int .i64 b] w fun e w' => ∃ zz : Cp, e = .returned (.int .i64 ((clrF (cv xc) b).2)) ∧ (cv zz = (clrF (cv xc) b).1) ∧ Mem w0 (blk k (wtcells (⟨⟨zz, xa, xg, xl⟩, xy⟩ : Wtr)) 141 :: fz zz :: L) w' := by
 obtain ⟨hk, hb0, hb1⟩ := hpre
 refine calls_in (args := [_, _]) Tryz.func173 rfl Tryz.ntmps173 rfl hw ?_
 change Cw _ _ _ _ _ [(0, .pointer (some ⟨k, 0, none⟩)), (1, .int .i64 b)] (blk k (wtcells (⟨⟨xc, xa, xg, xl⟩, xy⟩ : Wtr)) 141 :: fz xc :: L)
 refine cw_seq ?_
 refine cw_region ?_
 refine sq_r (ry_assign rfl) ?_
 refine sq_nil ?_
 refine ex_then ?_
 refine cw_seq ?_
 refine cw_block ?_
 refine cw_loop (X := Cp) (fun zz => [(0, .pointer (some ⟨k, 0, none⟩)), (1, .int .i64 b)]) (fun zz => blk k (wtcells (⟨⟨zz, xa, xg, xl⟩, xy⟩ : Wtr)) 141 :: fz zz :: L) (fun zz => clrF (cv xc) b = clrF (cv zz) b ∧ chipOk (cv zz) = true ∧ Like (cv xc) (cv zz)) (fun zz => (freeF (cv zz) b).toNat) xc ⟨rfl, hk, .rfl' _⟩ (Sub.cons rfl (Sub.cons rfl (Sub.nil _))) (fun w hw => Keep.mem hw) ?_
 rintro d ⟨hi1, hi2, hi3⟩
 have hdl := hi3.len
 refine cw_seq ?_
 refine cw_seq ?_
 refine cw_region ?_
 refine sq_r (ry_move rfl) ?_
 refine sq_r (ry_move rfl) ?_
 refine sq_y (yl_callC rfl ⟨hi2, by omega, by omega⟩) ?_
 refine sq_r (ry_int rfl rfl rfl) ?_
 refine sq_nil ?_
 refine ex_then ?_
 refine cw_cond rfl (fun h0 => ?_) (fun h0 => ?_)
 ·
  try simp only [Z0, Z1, Z2, Z3, Z4, Z5, Z6, Z7, Z8, Z9] at h0
  have hst := clrF_step (c := cv d) (b := b) h0
  refine cw_skip ?_
  refine ex_then ?_
  refine cw_block ?_
  refine cw_seq ?_
  refine cw_region ?_
  refine sq_r (ry_build (v := .agg (pgcells ⟨1, 0, 0, ⟨Sv.none, []⟩⟩)) rfl clr_build) ?_
  refine sq_r (ry_move rfl) ?_
  refine sq_r (ry_nilp rfl) ?_
  refine sq_r (ry_field (o' := 0) rfl rfl) ?_
  refine sq_r (ry_field (o' := 0) rfl rfl) ?_
  refine sq_r (ry_field (o' := 1) rfl rfl) ?_
  refine sq_r (Ry.to (v' := .int .i64 d.size) (ry_cellc rfl) rfl) ?_
  refine sq_callC rfl trivial fun x20 hp20 => ?_
  refine sq_r (ry_move rfl) ?_
  refine sq_r (ry_extract (v := x20.val) rfl rfl) ?_
  refine sq_r (ry_extract (v := .int .i64 ((putF (pvv (⟨1, 0, 0, ⟨Sv.none, []⟩⟩ : Pge)) d.size).2)) rfl rfl) ?_
  refine sq_r (ry_assign rfl) ?_
  refine sq_r (ry_assign rfl) ?_
  refine sq_nil ?_
  refine ex_then ?_
  refine cw_seq ?_
  refine cw_region ?_
  refine sq_r (ry_move rfl) ?_
  refine sq_r (ry_move rfl) ?_
  refine sq_r (ry_move rfl) ?_
  refine sq_callC rfl ⟨hi2, by omega, by omega⟩ fun x26 hp26 => ?_
  have hp26d : cv x26 = progW (cv d) b (clrPg (cv d)) := hp26
  clear hp26
  have hp26 := hp26d
  refine sq_r (ry_assign rfl) ?_
  refine sq_nil ?_
  refine ex_then ?_
  refine cw_seq ?_
  refine cw_region ?_
  refine sq_r (ry_move rfl) ?_
  refine sq_r (ry_int rfl rfl rfl) ?_
  refine sq_nil ?_
  refine ex_then ?_
  refine cw_cond rfl (fun h1 => ?_) (fun h1 => ?_)
  ·
   try simp only [Z0, Z1, Z2, Z3, Z4, Z5, Z6, Z7, Z8, Z9] at h1
   have h1d : progWE (cv d) b (clrPg (cv d)) ≠ 0 := h1
   refine cw_seq ?_
   refine cw_region ?_
   refine sq_r (ry_move rfl) ?_
   refine sq_r (ry_assign rfl) ?_
   refine sq_nil ?_
   refine ex_then ?_
   refine cw_ret ?_
   refine ex_block_ret ?_
   refine ex_pass_ret ?_
   refine ex_block_ret ?_
   refine ex_pass_ret ?_
   refine ex_ret (.inl rfl) (res_1 rfl (rv_tmp rfl)) (fun w1 hw => ?_)
   exact ⟨x26, by rw [hi1, hst, if_pos h1d]; rfl, by rw [hp26, hi1, hst, if_pos h1d], Keep.mem hw⟩
  ·
   try simp only [Z0, Z1, Z2, Z3, Z4, Z5, Z6, Z7, Z8, Z9] at h1
   have h1d : progWE (cv d) b (clrPg (cv d)) = 0 := h1
   refine cw_skip ?_
   refine ex_block ?_
   exact ex_again (x := (d)) x26 ⟨by rw [hi1, hp26, hst, if_neg (by first | omega | (simp only []; omega))], by rw [hp26]; exact progW_ok hi2 _ _, by rw [hp26]; exact hi3.trans (progW_like _ _ _)⟩ (by have h9 := progC_free (c := cv d) (b := b) (p := clrPg (cv d)) (by first | omega | (simp only []; omega)); rw [hp26]; omega) (Sub.cons rfl (Sub.cons rfl (Sub.nil _))) (fun w hw => Keep.mem hw)
 ·
  try simp only [Z0, Z1, Z2, Z3, Z4, Z5, Z6, Z7, Z8, Z9] at h0
  have hen := clrF_end (c := cv d) (b := b) (by omega)
  refine cw_exit ?_
  refine ex_pass_exit ?_
  refine ex_pass_exit ?_
  refine ex_block_hit ?_
  refine ex_then ?_
  refine cw_seq ?_
  refine cw_region ?_
  refine sq_r (ry_move rfl) ?_
  refine sq_r (ry_move rfl) ?_
  refine sq_callC rfl ⟨hi2, by omega, by omega⟩ fun x32 hp32 => ?_
  refine sq_r (ry_assign rfl) ?_
  refine sq_nil ?_
  refine ex_then ?_
  refine cw_ret ?_
  refine ex_ret (.inl rfl) (res_1 rfl (rv_tmp rfl)) (fun w1 hw => ?_)
  exact ⟨x32, by rw [hi1, hen], by rw [hp32, hi1, hen], Keep.mem hw⟩
instance wclear_i {w0 : World} {L R1 L2 : List Ent} {i0 i1 : Nat} {k : Nat} {xc : Cp} {xa : Sl Int} {xg : UInt64} {xl : Int} {xy : Bool} {b : Int} [q0 : Has L k (wtcells (⟨⟨xc, xa, xg, xl⟩, xy⟩ : Wtr)) 141 i0] [d0 : DelI L i0 R1] [q1 : At R1 (fz xc) i1] [d1 : DelI R1 i1 L2]  : FnC Tryz.prog 173 w0 L [.pointer (some ⟨k, 0, none⟩), .int .i64 b] (Cp) (fun zz => .int .i64 ((clrF (cv xc) b).2)) (fun zz => blk k (wtcells (⟨⟨zz, xa, xg, xl⟩, xy⟩ : Wtr)) 141 :: fz zz :: L2) (fun zz => cv zz = (clrF (cv xc) b).1) (chipOk (cv xc) = true ∧ 0 ≤ b ∧ b < (cv xc).blocks.length) := ⟨fun hp w hw => wclear_c w0 w L2 k xc xa xg xl xy b (mem_two q0.h d0.h q1.h d1.h hw) hp⟩

end Go.Proofs.YtaipiecplldinaaGreat

/- A writer: blocks, and only some of them. -/
namespace Go.Proofs.YtaipiecplldinaaGreat
open Go.Eng Go.Kb
open Go.RowKit
theorem bad_build (w : World) : (Instr.build 50 #[(3, .bool true)]).run Tryz.prog w = .ok (.agg (weacells badWea)) w := by kernel_rfl
theorem wblocks_c (w : World) (xb : Nat) (xc : Cp) (xa : Sl Int) (xg : UInt64) (xl : Int) (xy : Bool) (l : Sl (Sl Int)) (hxb : w.heap[xb]? = Option.some (.cells (wtcells (⟨⟨xc, xa, xg, xl⟩, xy⟩ : Wtr)) 141 (0, 0))) (hx0 : Deep.good (hp w) xc) (hl : Deep.good (hp w) l) (hpre : KnOk (cv xc) (flatI l.xs)) : Calls Tryz.prog 165 #[.pointer (some ⟨xb, 0, none⟩), l.sv.val] w fun e w' => ∃ zz : Sv, e = .returned (zz.val) ∧ (True) ∧ Mem w [own weacells 4 zz (blksF (cv xc) (flatI l.xs))] w' := by
 have ghxb : OldB w xb (wtcells (⟨⟨xc, xa, xg, xl⟩, xy⟩ : Wtr)) 141 := ⟨hxb⟩
 have ghx0 : GvD w xc := ⟨hx0⟩
 have ghl : GvD w l := ⟨hl⟩
 refine calls_of (args := [_, _]) Tryz.func165 rfl Tryz.ntmps165 rfl ?_
 change Cw _ _ _ _ _ [(0, .pointer (some ⟨xb, 0, none⟩)), (1, l.sv.val)] []
 refine cw_seq ?_
 refine cw_region ?_
 refine sq_r (ry_assign rfl) ?_
 refine sq_nil ?_
 refine ex_then ?_
 refine cw_seq ?_
 refine cw_region ?_
 refine sq_r (ry_move rfl) ?_
 refine sq_r (ry_nilp rfl) ?_
 refine sq_r (ry_field (o' := 0) rfl rfl) ?_
 refine sq_r (ry_field (o' := 0) rfl rfl) ?_
 refine sq_r (Ry.to (v' := .agg (cpcells xc)) (ry_partP rfl) rfl) ?_
 refine sq_r (ry_move rfl) ?_
 refine sq_callC rfl (by assumption) fun x13 hp13 => ?_
 have hkl : (knownF (cv xc) (flatI l.xs)).length = (cv xc).blocks.length - 2 := by rw [knownF, knownTo_len]
 have hso := soundF_iff.1 (chipOk_iff.1 hpre.1.1).1
 have hzl : ∀ i, i ≤ (knownF (cv xc) (flatI l.xs)).length → (((knownF (cv xc) (flatI l.xs)).take i).map tellW ++ (knownF (cv xc) (flatI l.xs)).drop i).length = (knownF (cv xc) (flatI l.xs)).length := fun i hi => by rw [List.length_append, List.length_map, List.length_take, List.length_drop]; omega
 refine sq_r (ry_assign rfl) ?_
 refine sq_nil ?_
 refine ex_then ?_
 refine cw_seq ?_
 refine cw_seq ?_
 refine cw_region ?_
 refine sq_r (ry_move rfl) ?_
 refine sq_r (ry_lenH rfl) ?_
 refine sq_r (ry_move rfl) ?_
 refine sq_nil ?_
 refine ex_then ?_
 refine cw_block ?_
 refine cw_loop (X := Nat) (fun zz => [(16, .int .i64 (zz : Nat)), (5, x13.val), (15, .int .i64 ((knownF (cv xc) (flatI l.xs)).length : Nat))]) (fun zz => [own weacells 4 x13 (((knownF (cv xc) (flatI l.xs)).take zz).map tellW ++ (knownF (cv xc) (flatI l.xs)).drop zz)]) (fun zz => zz ≤ (knownF (cv xc) (flatI l.xs)).length) (fun zz => (knownF (cv xc) (flatI l.xs)).length - zz) 0 (Nat.zero_le _) (Sub.cons rfl (Sub.cons rfl (Sub.cons rfl (Sub.nil _)))) (fun w hw => by simp only [List.take_zero, List.map_nil, List.nil_append, List.drop_zero]; exact Keep.mem hw) ?_
 rintro i hi1
 have hzi := hzl i hi1
 refine cw_seq ?_
 refine cw_region ?_
 refine sq_r (ry_int rfl rfl rfl) ?_
 refine sq_nil ?_
 refine ex_then ?_
 refine cw_seq ?_
 refine cw_cond rfl (fun h0 => ?_) (fun h0 => ?_)
 ·
  try simp only [Z0, Z1, Z2, Z3, Z4, Z5, Z6, Z7, Z8, Z9] at h0
  obtain ⟨z, hz⟩ := get_some (xs := (knownF (cv xc) (flatI l.xs))) (i := i) (by omega)
  have hzx := map_get (f := tellW) hz
  refine cw_skip ?_
  refine ex_then ?_
  refine cw_seq ?_
  refine cw_block ?_
  refine cw_seq ?_
  refine cw_region ?_
  refine sq_r (ry_move rfl) ?_
  refine sq_r (ry_assign rfl) ?_
  refine sq_nil ?_
  refine ex_then ?_
  refine cw_seq ?_
  refine cw_region ?_
  refine sq_r (ry_move rfl) ?_
  refine sq_r (ry_move rfl) ?_
  refine sq_r (ry_idxH rfl rfl i rfl (by omega)) ?_
  refine sq_r (ry_field rfl rfl) ?_
  refine sq_r (ry_elemcH (j := 3) rfl i hzx rfl (by decide)) ?_
  refine sq_nil ?_
  refine ex_then ?_
  refine cw_cond rfl (fun h1 => ?_) (fun h1 => ?_)
  ·
   try simp only [Z0, Z1, Z2, Z3, Z4, Z5, Z6, Z7, Z8, Z9] at h1
   have hf : tellW z = badWea := by rw [tellW, if_pos h1]
   refine cw_region ?_
   refine sq_r (ry_move rfl) ?_
   refine sq_r (ry_move rfl) ?_
   refine sq_r (ry_build (v := .agg (weacells badWea)) rfl bad_build) ?_
   refine sq_r (ry_idxH rfl rfl i rfl (by omega)) ?_
   refine sq_storeS (n := 4) (k := i) (j := 0) (a := z) (a' := badWea) (xs := (((knownF (cv xc) (flatI l.xs)).take i).map tellW ++ (knownF (cv xc) (flatI l.xs)).drop i)) (enc := weacells) (c := 4) (v := .agg (weacells badWea)) (by kernel_rfl) rfl rfl rfl hzx (Enc.one (enc := weacells) (c := 4) _) rfl (by decide) (by rfl) ?_
   refine sq_nil ?_
   refine ex_block ?_
   refine ex_then ?_
   refine cw_region ?_
   refine sq_r (ry_add rfl rfl (by omega)) ?_
   refine sq_r (ry_move rfl) ?_
   refine sq_nil ?_
   exact ex_again (x := (i)) (i + 1) (by first | omega | (simp only []; omega)) (by first | omega | (simp only []; omega)) (Sub.cons rfl (Sub.cons rfl (Sub.cons rfl (Sub.nil _)))) (fun w hw => by rw [← map_step hz, hf]; exact Keep.mem hw)
  ·
   try simp only [Z0, Z1, Z2, Z3, Z4, Z5, Z6, Z7, Z8, Z9] at h1
   have hf : tellW z = z := by rw [tellW, if_neg (by rw [h1]; simp)]
   refine cw_skip ?_
   refine ex_block ?_
   refine ex_then ?_
   refine cw_region ?_
   refine sq_r (ry_add rfl rfl (by omega)) ?_
   refine sq_r (ry_move rfl) ?_
   refine sq_nil ?_
   exact ex_again (x := (i)) (i + 1) (by first | omega | (simp only []; omega)) (by first | omega | (simp only []; omega)) (Sub.cons rfl (Sub.cons rfl (Sub.cons rfl (Sub.nil _)))) (fun w hw => by rw [← map_skip hz hf]; exact Keep.mem hw)
 ·
  try simp only [Z0, Z1, Z2, Z3, Z4, Z5, Z6, Z7, Z8, Z9] at h0
  obtain rfl : i = (knownF (cv xc) (flatI l.xs)).length := by omega
  have hE : blksF (cv xc) (flatI l.xs) = (((knownF (cv xc) (flatI l.xs)).take (knownF (cv xc) (flatI l.xs)).length).map tellW ++ (knownF (cv xc) (flatI l.xs)).drop (knownF (cv xc) (flatI l.xs)).length) := by rw [blksF, List.take_length, List.drop_length, List.append_nil]
  refine cw_exit ?_
  refine ex_pass_exit ?_
  refine ex_pass_exit ?_
  refine ex_block_hit ?_
  refine ex_then ?_
  refine cw_seq ?_
  refine cw_region ?_
  refine sq_r (ry_move rfl) ?_
  refine sq_r (ry_assign rfl) ?_
  refine sq_nil ?_
  refine ex_then ?_
  refine cw_ret ?_
  refine ex_ret (.inl rfl) (res_1 rfl (rv_tmp rfl)) (fun w1 hw => ?_)
  exact ⟨x13, rfl, trivial, by rw [hE]; exact Keep.mem hw⟩
instance wblocks_i {w0 : World} {L : List Ent} {xb : Nat} {xc : Cp} {xa : Sl Int} {xg : UInt64} {xl : Int} {xy : Bool} {l : Sl (Sl Int)} [hxb : Blk w0 L xb (wtcells (⟨⟨xc, xa, xg, xl⟩, xy⟩ : Wtr)) 141] [hx0 : HdD w0 L xc] [hl : HdD w0 L l] : FnC Tryz.prog 165 w0 L [.pointer (some ⟨xb, 0, none⟩), l.sv.val] (Sv) (fun zz => zz.val) (fun zz => own weacells 4 zz (blksF (cv xc) (flatI l.xs)) :: L) (fun zz => True) (KnOk (cv xc) (flatI l.xs)) := ⟨fun hp w hw => (wblocks_c w xb xc xa xg xl xy l (hxb.h w hw) (hx0.h w hw) (hl.h w hw) hp).mono fun e w' ⟨x, h1, h2, h3⟩ => ⟨x, h1, h2, hw.call h3⟩⟩
theorem cloneWea_c (w : World) (s : Sv) (ss : List Wea) (hs : Lies weacells 4 (hp w) s ss) (hpre : ss.length ≤ 1000000) : Calls Tryz.prog 180 #[s.val] w fun e w' => ∃ zz : Sv, e = .returned (zz.val) ∧ (True) ∧ Mem w [own weacells 4 zz ss] w' := by
 have ghs : Gv w s weacells 4 ss := ⟨hs⟩
 refine calls_of (args := [_]) Tryz.func180 rfl Tryz.ntmps180 rfl ?_
 change Cw _ _ _ _ _ [(0, s.val)] []
 refine cw_seq ?_
 refine cw_region ?_
 refine sq_r (ry_assign rfl) ?_
 refine sq_nil ?_
 refine ex_then ?_
 refine cw_seq ?_
 refine cw_seq ?_
 refine cw_region ?_
 refine sq_r (ry_move rfl) ?_
 refine sq_r (ry_nilS Tryz.underlying43 rfl) ?_
 refine sq_nil ?_
 refine ex_then ?_
 refine cw_cond rfl (fun h0 => ?_) (fun h0 => ?_)
 ·
  try simp only [Z0, Z1, Z2, Z3, Z4, Z5, Z6, Z7, Z8, Z9] at h0
  have e0 : ss = [] := List.length_eq_zero_iff.1 (by have := hs.ok.nil h0; have := hs.len; omega)
  refine cw_seq ?_
  refine cw_region ?_
  refine sq_r (ry_assign rfl) ?_
  refine sq_nil ?_
  refine ex_then ?_
  refine cw_ret ?_
  refine ex_pass_ret ?_
  refine ex_ret (.inl rfl) (res_1 rfl (rv_tmp rfl)) (fun w1 hw => ?_)
  exact ⟨Sv.none, rfl, trivial, by rw [e0]; exact (Keep.mem hw : Mem w [] _).nilOwn weacells 4⟩
 ·
  try simp only [Z0, Z1, Z2, Z3, Z4, Z5, Z6, Z7, Z8, Z9] at h0
  refine cw_skip ?_
  refine ex_then ?_
  refine cw_seq ?_
  refine cw_region ?_
  refine sq_build0 weacells fun b5 => ?_
  refine sq_r (ry_move rfl) ?_
  refine sq_append (s := ⟨false, b5, 0, 0, 0, none⟩) (enc := weacells) (ys := ss) rfl rfl (by decide) (fun w hw => src_rows (s := s) Tryz.underlying43 (by decide) ((inferInstance : HdE _ _ weacells 4 s ss).h w hw)) (by simp only [List.length_nil]; omega) (by simp only [List.length_nil]; omega) fun s7 hs7 hl7 => ?_
  refine sq_r (ry_assign rfl) ?_
  refine sq_nil ?_
  refine ex_then ?_
  refine cw_ret ?_
  refine ex_ret (.inl rfl) (res_1 rfl (rv_tmp rfl)) (fun w1 hw => ?_)
  exact ⟨s7, rfl, trivial, by rw [List.nil_append] at hw; exact Keep.mem hw⟩
instance cloneWea_i {w0 : World} {L : List Ent} {s : Sv} {ss : List Wea} [hs : HdE w0 L weacells 4 s ss] : FnC Tryz.prog 180 w0 L [s.val] (Sv) (fun zz => zz.val) (fun zz => own weacells 4 zz ss :: L) (fun zz => True) (ss.length ≤ 1000000) := ⟨fun hp w hw => (cloneWea_c w s ss (hs.h w hw) hp).mono fun e w' ⟨x, h1, h2, h3⟩ => ⟨x, h1, h2, hw.call h3⟩⟩
theorem fonly_c (w : World) (f : FuncId) (caps : Array Value) (R : Wea → Bool) (hr : Rul Tryz.prog w [] f caps weacells R) (l : Sv) (ls : List Wea) (hl : Lies weacells 4 (hp w) l ls) (hpre : ls.length ≤ 1000000) : Calls Tryz.prog 169 #[l.val, .func (.func f) #[] caps] w fun e w' => ∃ zz : Sv, e = .returned (zz.val) ∧ (True) ∧ Mem w [own weacells 4 zz (onlyF R ls)] w' := by
 have ghl : Gv w l weacells 4 ls := ⟨hl⟩
 have isf := hr.fn
 have hzl : ∀ i, i ≤ ls.length → ((ls.take i).map (onlyT R) ++ ls.drop i).length = ls.length := fun i hi => by rw [List.length_append, List.length_map, List.length_take, List.length_drop]; omega
 refine calls_of (args := [_, _]) Tryz.func169 rfl Tryz.ntmps169 rfl ?_
 change Cw _ _ _ _ _ [(0, l.val), (1, .func (.func f) #[] caps)] []
 refine cw_seq ?_
 refine cw_region ?_
 refine sq_r (ry_assign rfl) ?_
 refine sq_nil ?_
 refine ex_then ?_
 refine cw_seq ?_
 refine cw_region ?_
 refine sq_r (ry_move rfl) ?_
 refine sq_callC rfl (by omega) fun x9 hp9 => ?_
 refine sq_r (ry_assign rfl) ?_
 refine sq_nil ?_
 refine ex_then ?_
 refine cw_seq ?_
 refine cw_seq ?_
 refine cw_region ?_
 refine sq_r (ry_move rfl) ?_
 refine sq_r (ry_lenH rfl) ?_
 refine sq_r (ry_move rfl) ?_
 refine sq_nil ?_
 refine ex_then ?_
 refine cw_block ?_
 refine cw_loop (X := Nat) (fun zz => [(12, .int .i64 (zz : Nat)), (5, x9.val), (10, x9.val), (1, .func (.func f) #[] caps), (11, .int .i64 (ls.length : Nat))]) (fun zz => [own weacells 4 x9 ((ls.take zz).map (onlyT R) ++ ls.drop zz)]) (fun zz => zz ≤ ls.length) (fun zz => ls.length - zz) 0 (Nat.zero_le _) (Sub.cons rfl (Sub.cons rfl (Sub.cons rfl (Sub.cons rfl (Sub.cons rfl (Sub.nil _)))))) (fun w hw => by simp only [List.take_zero, List.map_nil, List.nil_append, List.drop_zero]; exact Keep.mem hw) ?_
 rintro i hi1
 have hzi := hzl i hi1
 refine cw_seq ?_
 refine cw_region ?_
 refine sq_r (ry_int rfl rfl rfl) ?_
 refine sq_nil ?_
 refine ex_then ?_
 refine cw_seq ?_
 refine cw_cond rfl (fun h0 => ?_) (fun h0 => ?_)
 ·
  try simp only [Z0, Z1, Z2, Z3, Z4, Z5, Z6, Z7, Z8, Z9] at h0
  obtain ⟨z, hz⟩ := get_some (xs := ls) (i := i) (by omega)
  have hzx := map_get (f := onlyT R) hz
  refine cw_skip ?_
  refine ex_then ?_
  refine cw_seq ?_
  refine cw_block ?_
  refine cw_seq ?_
  refine cw_region ?_
  refine sq_r (ry_move rfl) ?_
  refine sq_r (ry_idxH rfl rfl i rfl (by omega)) ?_
  refine sq_r (ry_elemH rfl i hzx rfl) ?_
  refine sq_allocA fun b7 => ?_
  refine sq_r (ry_assign rfl) ?_
  refine sq_storeW rfl rfl ?_
  refine sq_nil ?_
  refine ex_then ?_
  refine cw_seq ?_
  refine cw_region ?_
  refine sq_r (ry_field (o' := 3) rfl rfl) ?_
  refine sq_r (ry_cellc rfl) ?_
  refine sq_r (ry_move rfl) ?_
  refine sq_gf rfl rfl rfl (fun hg => (Ry.yl (ry_move rfl))) ?_
  refine sq_gf rfl rfl rfl (fun hg => (Ry.yl (ry_whole rfl))) ?_
  refine sq_gf rfl rfl rfl (fun hg => yl_fcall (f := f) (vs := [.agg (weacells z)]) (ev_c hg rfl) (evl_cons (ev_c hg rfl) evl_nil) (fun w1 hw1 => hr.h w1 (Keep.mem hw1) z)) ?_
  refine sq_gf rfl rfl rfl (fun hg => (Ry.yl (ry_not (ev_c hg rfl)))) ?_
  refine sq_r (ry_or rfl rfl rfl) ?_
  refine sq_nil ?_
  refine ex_then ?_
  refine cw_cond rfl (fun h1 => ?_) (fun h1 => ?_)
  ·
   try simp only [Z0, Z1, Z2, Z3, Z4, Z5, Z6, Z7, Z8, Z9] at h1
   have hf : onlyT R z = badWea := by rw [onlyT, if_pos (by simpa using h1)]
   refine cw_region ?_
   refine sq_r (ry_move rfl) ?_
   refine sq_r (ry_move rfl) ?_
   refine sq_r (ry_build (v := .agg (weacells badWea)) rfl bad_build) ?_
   refine sq_r (ry_idxH rfl rfl i rfl (by omega)) ?_
   refine sq_storeS (n := 4) (k := i) (j := 0) (a := z) (a' := badWea) (xs := ((ls.take i).map (onlyT R) ++ ls.drop i)) (enc := weacells) (c := 4) (v := .agg (weacells badWea)) (by kernel_rfl) rfl rfl rfl hzx (Enc.one (enc := weacells) (c := 4) _) rfl (by decide) (by rfl) ?_
   refine sq_nil ?_
   refine ex_block ?_
   refine ex_then ?_
   refine cw_region ?_
   refine sq_r (ry_add rfl rfl (by omega)) ?_
   refine sq_r (ry_move rfl) ?_
   refine sq_nil ?_
   exact ex_again (x := (i)) (i + 1) (by first | omega | (simp only []; omega)) (by first | omega | (simp only []; omega)) (Sub.cons rfl (Sub.cons rfl (Sub.cons rfl (Sub.cons rfl (Sub.cons rfl (Sub.nil _)))))) (fun w hw => by rw [← map_step hz, hf]; exact Keep.mem hw)
  ·
   try simp only [Z0, Z1, Z2, Z3, Z4, Z5, Z6, Z7, Z8, Z9] at h1
   have hf : onlyT R z = z := by rw [onlyT, if_neg (by simpa using h1)]
   refine cw_skip ?_
   refine ex_block ?_
   refine ex_then ?_
   refine cw_region ?_
   refine sq_r (ry_add rfl rfl (by omega)) ?_
   refine sq_r (ry_move rfl) ?_
   refine sq_nil ?_
   exact ex_again (x := (i)) (i + 1) (by first | omega | (simp only []; omega)) (by first | omega | (simp only []; omega)) (Sub.cons rfl (Sub.cons rfl (Sub.cons rfl (Sub.cons rfl (Sub.cons rfl (Sub.nil _)))))) (fun w hw => by rw [← map_skip hz hf]; exact Keep.mem hw)
 ·
  try simp only [Z0, Z1, Z2, Z3, Z4, Z5, Z6, Z7, Z8, Z9] at h0
  obtain rfl : i = ls.length := by omega
  have hE : onlyF R ls = ((ls.take ls.length).map (onlyT R) ++ ls.drop ls.length) := by rw [onlyF, List.take_length, List.drop_length, List.append_nil]
  refine cw_exit ?_
  refine ex_pass_exit ?_
  refine ex_pass_exit ?_
  refine ex_block_hit ?_
  refine ex_then ?_
  refine cw_seq ?_
  refine cw_region ?_
  refine sq_r (ry_move rfl) ?_
  refine sq_r (ry_assign rfl) ?_
  refine sq_nil ?_
  refine ex_then ?_
  refine cw_ret ?_
  refine ex_ret (.inl rfl) (res_1 rfl (rv_tmp rfl)) (fun w1 hw => ?_)
  exact ⟨x9, rfl, trivial, by rw [hE]; exact Keep.mem hw⟩
instance fonly_i {w0 : World} {L : List Ent} {f : FuncId} {caps : Array Value} {R : Wea → Bool} {l : Sv} {ls : List Wea} [rq : Rul Tryz.prog w0 L f caps weacells R] [hl : HdE w0 L weacells 4 l ls] : FnC Tryz.prog 169 w0 L [l.val, .func (.func f) #[] caps] (Sv) (fun zz => zz.val) (fun zz => own weacells 4 zz (onlyF R ls) :: L) (fun zz => True) (ls.length ≤ 1000000) := ⟨fun hp w hw => (fonly_c w f caps R (rq.at hw) l ls (hl.h w hw) hp).mono fun e w' ⟨x, h1, h2, h3⟩ => ⟨x, h1, h2, hw.call h3⟩⟩

end Go.Proofs.YtaipiecplldinaaGreat

/- A writer: room; the block for the next page. -/
namespace Go.Proofs.YtaipiecplldinaaGreat
open Go.Eng Go.Kb
open Go.RowKit
instance : ZeroT Tryz.prog 3 (.int .i64 0) := ⟨by kernel_rfl⟩
theorem flatI_one (a : Sl Int) : flatI [a] = a.xs := by simp [flatI]
theorem flatI_two (a b : Sl Int) : flatI [a, b] = a.xs ++ b.xs := by simp [flatI]
theorem wroomW_c (w : World) (xb : Nat) (xc : Cp) (xa : Sl Int) (xg : UInt64) (xl : Int) (xy : Bool) (hxb : w.heap[xb]? = Option.some (.cells (wtcells (⟨⟨xc, xa, xg, xl⟩, xy⟩ : Wtr)) 141 (0, 0))) (hx0 : Deep.good (hp w) xc) (hx1 : Deep.good (hp w) xa) (hpre : KnOk (cv xc) xa.xs) : Calls Tryz.prog 150 #[.pointer (some ⟨xb, 0, none⟩)] w fun e w' => e = .returned (.tuple #[.int .i64 ((roomsF (cv xc) xa.xs).1), .int .i64 ((roomsF (cv xc) xa.xs).2)]) ∧ Mem w [] w' := by
 have ghxb : OldB w xb (wtcells (⟨⟨xc, xa, xg, xl⟩, xy⟩ : Wtr)) 141 := ⟨hxb⟩
 have ghx0 : GvD w xc := ⟨hx0⟩
 have ghx1 : GvD w xa := ⟨hx1⟩
 have hkn : KnOk (cv xc) (flatI [xa]) := by rw [flatI_one]; exact hpre
 have hk := hpre.1.1
 have htd : ∀ z ∈ (blksF (cv xc) (flatI [xa])), TellB (cv xc) (flatI [xa]).length z := fun z hz => blks_told hk hz
 have hrl := roomL_le hk (blksF (cv xc) (flatI [xa])) htd
 have hbn := blksF_len (cv xc) (flatI [xa])
 have hd := chip_dims hk
 change _ ∧ _ ∧ 1 ≤ xc.pages ∧ xc.pages ≤ 16 ∧ _ ∧ _ at hd
 refine calls_of (args := [_]) Tryz.func150 rfl Tryz.ntmps150 rfl ?_
 change Cw _ _ _ _ _ [(0, .pointer (some ⟨xb, 0, none⟩))] []
 refine cw_seq ?_
 refine cw_region ?_
 refine sq_r (ry_assign rfl) ?_
 refine sq_r (ry_assign rfl) ?_
 refine sq_nil ?_
 refine ex_then ?_
 refine cw_seq ?_
 refine cw_region ?_
 refine sq_r (ry_assign rfl) ?_
 refine sq_r (ry_assign rfl) ?_
 refine sq_nil ?_
 refine ex_then ?_
 refine cw_seq ?_
 refine cw_seq ?_
 refine cw_region ?_
 refine sq_r (ry_move rfl) ?_
 refine sq_r (ry_move rfl) ?_
 refine sq_r (ry_nilp rfl) ?_
 refine sq_r (ry_field (o' := 0) rfl rfl) ?_
 refine sq_r (ry_field (o' := 6) rfl rfl) ?_
 refine sq_r (Ry.to (v' := xa.sv.val) (ry_cellP rfl) rfl) ?_
 refine sq_buildSlice (enc := scells) (vals := [xa.sv.val]) [xa] rfl (by simp only [List.map_cons, List.map_nil, Sv.cells_val]; rfl) rfl (by decide) (by decide) fun b15 => ?_
 refine sq_callC (hc := wblocks_i (l := (⟨⟨false, b15, 0, 1, 1, none⟩, [xa]⟩ : Sl (Sl Int)))) rfl hkn fun x16 hp16 => ?_
 refine sq_r (ry_lenH rfl) ?_
 refine sq_r (ry_move rfl) ?_
 refine sq_nil ?_
 refine ex_then ?_
 refine cw_block ?_
 refine cw_loop (X := Nat) (fun zz => [(18, .int .i64 (zz : Nat)), (4, .int .i64 ((roomL xc.pages ((blksF (cv xc) (flatI [xa])).take zz)).1)), (5, .int .i64 ((roomL xc.pages ((blksF (cv xc) (flatI [xa])).take zz)).2)), (0, .pointer (some ⟨xb, 0, none⟩)), (16, x16.val), (17, .int .i64 ((blksF (cv xc) (flatI [xa])).length : Nat))]) (fun zz => [own weacells 4 x16 (blksF (cv xc) (flatI [xa]))]) (fun zz => zz ≤ (blksF (cv xc) (flatI [xa])).length) (fun zz => (blksF (cv xc) (flatI [xa])).length - zz) 0 (Nat.zero_le _) (Sub.cons rfl (Sub.cons (look_eq rfl (by rw [List.take_zero]; rfl)) (Sub.cons (look_eq rfl (by rw [List.take_zero]; rfl)) (Sub.cons rfl (Sub.cons rfl (Sub.cons rfl (Sub.nil _))))))) (fun w hw => Keep.mem hw) ?_
 rintro i hi1
 refine cw_seq ?_
 refine cw_region ?_
 refine sq_r (ry_int rfl rfl rfl) ?_
 refine sq_nil ?_
 refine ex_then ?_
 refine cw_seq ?_
 refine cw_cond rfl (fun h0 => ?_) (fun h0 => ?_)
 ·
  try simp only [Z0, Z1, Z2, Z3, Z4, Z5, Z6, Z7, Z8, Z9] at h0
  obtain ⟨z, hz⟩ := get_some (xs := (blksF (cv xc) (flatI [xa]))) (i := i) (by omega)
  have hsn := roomL_snoc (p := xc.pages) hz
  have ht := htd z (List.mem_of_getElem? hz)
  have hu0 := ht.used0
  have hu1 : z.used ≤ xc.pages := ht.used1
  have hr1 : 0 ≤ (roomL xc.pages ((blksF (cv xc) (flatI [xa])).take i)).1 ∧ (roomL xc.pages ((blksF (cv xc) (flatI [xa])).take i)).1 ≤ 16 * (i : Int) ∧ 0 ≤ (roomL xc.pages ((blksF (cv xc) (flatI [xa])).take i)).2 ∧ (roomL xc.pages ((blksF (cv xc) (flatI [xa])).take i)).2 ≤ 16 := hrl i (by omega)
  refine cw_skip ?_
  refine ex_then ?_
  refine cw_seq ?_
  refine cw_block ?_
  refine cw_seq ?_
  refine cw_region ?_
  refine sq_r (ry_idxH rfl rfl i rfl (by omega)) ?_
  refine sq_r (ry_elemH rfl i hz rfl) ?_
  refine sq_allocA fun b7 => ?_
  refine sq_storeW rfl rfl ?_
  refine sq_nil ?_
  refine ex_then ?_
  refine cw_seq ?_
  refine cw_seq ?_
  refine cw_region ?_
  refine sq_r (ry_field (o' := 3) rfl rfl) ?_
  refine sq_r (ry_cellc rfl) ?_
  refine sq_nil ?_
  refine ex_then ?_
  refine cw_cond rfl (fun h1 => ?_) (fun h1 => ?_)
  ·
   try simp only [Z0, Z1, Z2, Z3, Z4, Z5, Z6, Z7, Z8, Z9] at h1
   have hst : (roomL xc.pages ((blksF (cv xc) (flatI [xa])).take (i + 1))) = (roomL xc.pages ((blksF (cv xc) (flatI [xa])).take i)) := by rw [hsn, roomStep, if_pos h1]
   refine cw_exit ?_
   refine ex_pass_exit ?_
   refine ex_block_hit ?_
   refine ex_then ?_
   refine cw_region ?_
   refine sq_r (ry_add rfl rfl (by omega)) ?_
   refine sq_r (ry_move rfl) ?_
   refine sq_nil ?_
   exact ex_again (x := (i)) (i + 1) (by first | omega | (simp only []; omega)) (by first | omega | (simp only []; omega)) (Sub.cons rfl (Sub.cons (look_eq rfl (by rw [hst])) (Sub.cons (look_eq rfl (by rw [hst])) (Sub.cons rfl (Sub.cons rfl (Sub.cons rfl (Sub.nil _))))))) (fun w hw => Keep.mem hw)
  ·
   try simp only [Z0, Z1, Z2, Z3, Z4, Z5, Z6, Z7, Z8, Z9] at h1
   have hnb : ¬ z.bad = true := by rw [h1]; simp
   refine cw_skip ?_
   refine ex_then ?_
   refine cw_seq ?_
   refine cw_quiet (by kernel_rfl) (by kernel_rfl) ?_
   refine qt_r (ry_move rfl) ?_
   refine qt_r (ry_nilp rfl) ?_
   refine qt_r (ry_field (o' := 0) rfl rfl) ?_
   refine qt_r (ry_field (o' := 0) rfl rfl) ?_
   refine qt_r (ry_field (o' := 0) rfl rfl) ?_
   refine qt_r (Ry.to (v' := .int .i64 xc.pages) (ry_cellP rfl) rfl) ?_
   refine qt_r (ry_field (o' := 1) rfl rfl) ?_
   refine qt_r (ry_cellc rfl) ?_
   refine qt_r (ry_sub rfl rfl (by omega)) ?_
   refine qt_r (ry_assign rfl) ?_
   refine qt_nil ?_
   refine ex_then ?_
   refine cw_seq ?_
   refine cw_seq ?_
   refine cw_region ?_
   refine sq_r (ry_field (o' := 0) rfl rfl) ?_
   refine sq_r (ry_cellc rfl) ?_
   refine sq_r (ry_int rfl rfl rfl) ?_
   refine sq_nil ?_
   refine ex_then ?_
   refine cw_cond rfl (fun h2 => ?_) (fun h2 => ?_)
   ·
    try simp only [Z0, Z1, Z2, Z3, Z4, Z5, Z6, Z7, Z8, Z9] at h2
    refine cw_seq ?_
    refine cw_seq ?_
    refine cw_region ?_
    refine sq_r (ry_move rfl) ?_
    refine sq_r (ry_int rfl rfl rfl) ?_
    refine sq_nil ?_
    refine ex_then ?_
    refine cw_cond rfl (fun h3 => ?_) (fun h3 => ?_)
    ·
     try simp only [Z0, Z1, Z2, Z3, Z4, Z5, Z6, Z7, Z8, Z9] at h3
     have hN : roomN xc.pages z = xc.pages := by rw [roomN, if_pos ⟨h2, h3⟩]
     have hst : (roomL xc.pages ((blksF (cv xc) (flatI [xa])).take (i + 1))) = ((roomL xc.pages ((blksF (cv xc) (flatI [xa])).take i)).1 + xc.pages, max (roomL xc.pages ((blksF (cv xc) (flatI [xa])).take i)).2 xc.pages) := by rw [hsn, roomStep, if_neg hnb, if_pos h2, hN]
     refine cw_region ?_
     refine sq_r (ry_move rfl) ?_
     refine sq_r (ry_nilp rfl) ?_
     refine sq_r (ry_field (o' := 0) rfl rfl) ?_
     refine sq_r (ry_field (o' := 0) rfl rfl) ?_
     refine sq_r (ry_field (o' := 0) rfl rfl) ?_
     refine sq_r (Ry.to (v' := .int .i64 xc.pages) (ry_cellP rfl) rfl) ?_
     refine sq_r (ry_assign rfl) ?_
     refine sq_nil ?_
     refine ex_then ?_
     refine cw_region ?_
     refine sq_r (ry_move rfl) ?_
     refine sq_r (ry_move rfl) ?_
     refine sq_r (ry_max rfl rfl) ?_
     refine sq_r (ry_assign rfl) ?_
     refine sq_nil ?_
     refine ex_then ?_
     refine cw_region ?_
     refine sq_r (ry_move rfl) ?_
     refine sq_r (ry_move rfl) ?_
     refine sq_r (ry_add rfl rfl (by omega)) ?_
     refine sq_r (ry_assign rfl) ?_
     refine sq_nil ?_
     refine ex_block ?_
     refine ex_then ?_
     refine cw_region ?_
     refine sq_r (ry_add rfl rfl (by omega)) ?_
     refine sq_r (ry_move rfl) ?_
     refine sq_nil ?_
     exact ex_again (x := (i)) (i + 1) (by first | omega | (simp only []; omega)) (by first | omega | (simp only []; omega)) (Sub.cons rfl (Sub.cons (look_eq rfl (by rw [hst])) (Sub.cons (look_eq rfl (by rw [hst])) (Sub.cons rfl (Sub.cons rfl (Sub.cons rfl (Sub.nil _))))))) (fun w hw => Keep.mem hw)
    ·
     try simp only [Z0, Z1, Z2, Z3, Z4, Z5, Z6, Z7, Z8, Z9] at h3
     have hN : roomN xc.pages z = xc.pages - z.used := by rw [roomN, if_neg (fun h => h3 h.2)]
     have hst : (roomL xc.pages ((blksF (cv xc) (flatI [xa])).take (i + 1))) = ((roomL xc.pages ((blksF (cv xc) (flatI [xa])).take i)).1 + (xc.pages - z.used), max (roomL xc.pages ((blksF (cv xc) (flatI [xa])).take i)).2 (xc.pages - z.used)) := by rw [hsn, roomStep, if_neg hnb, if_pos h2, hN]
     refine cw_skip ?_
     refine ex_then ?_
     refine cw_region ?_
     refine sq_r (ry_move rfl) ?_
     refine sq_r (ry_move rfl) ?_
     refine sq_r (ry_max rfl rfl) ?_
     refine sq_r (ry_assign rfl) ?_
     refine sq_nil ?_
     refine ex_then ?_
     refine cw_region ?_
     refine sq_r (ry_move rfl) ?_
     refine sq_r (ry_move rfl) ?_
     refine sq_r (ry_add rfl rfl (by omega)) ?_
     refine sq_r (ry_assign rfl) ?_
     refine sq_nil ?_
     refine ex_block ?_
     refine ex_then ?_
     refine cw_region ?_
     refine sq_r (ry_add rfl rfl (by omega)) ?_
     refine sq_r (ry_move rfl) ?_
     refine sq_nil ?_
     exact ex_again (x := (i)) (i + 1) (by first | omega | (simp only []; omega)) (by first | omega | (simp only []; omega)) (Sub.cons rfl (Sub.cons (look_eq rfl (by rw [hst])) (Sub.cons (look_eq rfl (by rw [hst])) (Sub.cons rfl (Sub.cons rfl (Sub.cons rfl (Sub.nil _))))))) (fun w hw => Keep.mem hw)
   ·
    try simp only [Z0, Z1, Z2, Z3, Z4, Z5, Z6, Z7, Z8, Z9] at h2
    have hN : roomN xc.pages z = xc.pages - z.used := by rw [roomN, if_neg (fun h => h2 h.1)]
    have hst : (roomL xc.pages ((blksF (cv xc) (flatI [xa])).take (i + 1))) = ((roomL xc.pages ((blksF (cv xc) (flatI [xa])).take i)).1 + (xc.pages - z.used), (roomL xc.pages ((blksF (cv xc) (flatI [xa])).take i)).2) := by rw [hsn, roomStep, if_neg hnb, if_neg h2, hN]
    refine cw_skip ?_
    refine ex_then ?_
    refine cw_region ?_
    refine sq_r (ry_move rfl) ?_
    refine sq_r (ry_move rfl) ?_
    refine sq_r (ry_add rfl rfl (by omega)) ?_
    refine sq_r (ry_assign rfl) ?_
    refine sq_nil ?_
    refine ex_block ?_
    refine ex_then ?_
    refine cw_region ?_
    refine sq_r (ry_add rfl rfl (by omega)) ?_
    refine sq_r (ry_move rfl) ?_
    refine sq_nil ?_
    exact ex_again (x := (i)) (i + 1) (by first | omega | (simp only []; omega)) (by first | omega | (simp only []; omega)) (Sub.cons rfl (Sub.cons (look_eq rfl (by rw [hst])) (Sub.cons (look_eq rfl (by rw [hst])) (Sub.cons rfl (Sub.cons rfl (Sub.cons rfl (Sub.nil _))))))) (fun w hw => Keep.mem hw)
 ·
  try simp only [Z0, Z1, Z2, Z3, Z4, Z5, Z6, Z7, Z8, Z9] at h0
  obtain rfl : i = (blksF (cv xc) (flatI [xa])).length := by omega
  have hE : roomsF (cv xc) xa.xs = ((roomL xc.pages ((blksF (cv xc) (flatI [xa])).take (blksF (cv xc) (flatI [xa])).length)).1 - (roomL xc.pages ((blksF (cv xc) (flatI [xa])).take (blksF (cv xc) (flatI [xa])).length)).2, (roomL xc.pages ((blksF (cv xc) (flatI [xa])).take (blksF (cv xc) (flatI [xa])).length)).1) := by rw [roomsF, ← flatI_one xa, List.take_length]; rfl
  have hr1 : 0 ≤ (roomL xc.pages ((blksF (cv xc) (flatI [xa])).take (blksF (cv xc) (flatI [xa])).length)).1 ∧ (roomL xc.pages ((blksF (cv xc) (flatI [xa])).take (blksF (cv xc) (flatI [xa])).length)).1 ≤ 16 * ((blksF (cv xc) (flatI [xa])).length : Int) ∧ 0 ≤ (roomL xc.pages ((blksF (cv xc) (flatI [xa])).take (blksF (cv xc) (flatI [xa])).length)).2 ∧ (roomL xc.pages ((blksF (cv xc) (flatI [xa])).take (blksF (cv xc) (flatI [xa])).length)).2 ≤ 16 := hrl (blksF (cv xc) (flatI [xa])).length (Nat.le_refl _)
  refine cw_exit ?_
  refine ex_pass_exit ?_
  refine ex_pass_exit ?_
  refine ex_block_hit ?_
  refine ex_then ?_
  refine cw_seq ?_
  refine cw_region ?_
  refine sq_r (ry_move rfl) ?_
  refine sq_r (ry_move rfl) ?_
  refine sq_r (ry_sub rfl rfl (by omega)) ?_
  refine sq_r (ry_move rfl) ?_
  refine sq_r (ry_assign rfl) ?_
  refine sq_r (ry_assign rfl) ?_
  refine sq_nil ?_
  refine ex_then ?_
  refine cw_ret ?_
  refine ex_ret (.inl rfl) (res_2 rfl (rv_tmp rfl) (rv_tmp rfl)) (fun w1 hw => ?_)
  exact ⟨by rw [hE], Keep.mem hw⟩
instance wroomW_i {w0 : World} {L : List Ent} {xb : Nat} {xc : Cp} {xa : Sl Int} {xg : UInt64} {xl : Int} {xy : Bool} [hxb : Blk w0 L xb (wtcells (⟨⟨xc, xa, xg, xl⟩, xy⟩ : Wtr)) 141] [hx0 : HdD w0 L xc] [hx1 : HdD w0 L xa] : FnQ Tryz.prog 150 w0 L [.pointer (some ⟨xb, 0, none⟩)] (.tuple #[.int .i64 ((roomsF (cv xc) xa.xs).1), .int .i64 ((roomsF (cv xc) xa.xs).2)]) (KnOk (cv xc) xa.xs) := ⟨fun hp w hw => wroomW_c w xb xc xa xg xl xy (hxb.h w hw) (hx0.h w hw) (hx1.h w hw) hp⟩
theorem wfr1_c (w : World) (x : Wea)  : Calls Tryz.prog 175 #[.agg (weacells x)] w fun e w' => e = .returned (.bool (livF x)) ∧ Mem w [] w' := by
 refine calls_of (args := [_]) Tryz.func175 rfl Tryz.ntmps175 rfl ?_
 change Cw _ _ _ _ _ [(0, .agg (weacells x))] []
 refine cw_seq ?_
 refine cw_region ?_
 refine sq_boxA rfl fun b1 => ?_
 refine sq_r (ry_assign rfl) ?_
 refine sq_nil ?_
 refine ex_then ?_
 refine cw_seq ?_
 refine cw_region ?_
 refine sq_r (ry_field (o' := 0) rfl rfl) ?_
 refine sq_r (ry_cellc rfl) ?_
 refine sq_r (ry_int rfl rfl rfl) ?_
 refine sq_r (ry_assign rfl) ?_
 refine sq_nil ?_
 refine ex_then ?_
 refine cw_ret ?_
 refine ex_ret (.inl rfl) (res_1 rfl (rv_tmp rfl)) (fun w1 hw => ?_)
 exact ⟨congrArg (fun b => Ending.returned (Value.bool b)) (rfl), Keep.mem hw⟩
instance {w0 : World} {L : List Ent} : Rul Tryz.prog w0 L 175 #[] weacells livF := ⟨inferInstance, fun w _ x => wfr1_c w x⟩
theorem wfr2_c (w : World) (x : Wea)  : Calls Tryz.prog 176 #[.agg (weacells x)] w fun e w' => e = .returned (.bool (dedF x)) ∧ Mem w [] w' := by
 refine calls_of (args := [_]) Tryz.func176 rfl Tryz.ntmps176 rfl ?_
 change Cw _ _ _ _ _ [(0, .agg (weacells x))] []
 refine cw_seq ?_
 refine cw_region ?_
 refine sq_boxA rfl fun b1 => ?_
 refine sq_r (ry_assign rfl) ?_
 refine sq_nil ?_
 refine ex_then ?_
 refine cw_seq ?_
 refine cw_region ?_
 refine sq_r (ry_field (o' := 0) rfl rfl) ?_
 refine sq_r (ry_cellc rfl) ?_
 refine sq_r (ry_int rfl rfl rfl) ?_
 refine sq_r (ry_assign rfl) ?_
 refine sq_nil ?_
 refine ex_then ?_
 refine cw_ret ?_
 refine ex_ret (.inl rfl) (res_1 rfl (rv_tmp rfl)) (fun w1 hw => ?_)
 exact ⟨congrArg (fun b => Ending.returned (Value.bool b)) (rfl), Keep.mem hw⟩
instance {w0 : World} {L : List Ent} : Rul Tryz.prog w0 L 176 #[] weacells dedF := ⟨inferInstance, fun w _ x => wfr2_c w x⟩
theorem wfront_c (w0 w : World) (L : List Ent) (k : Nat) (xc : Cp) (xa : Sl Int) (xg : UInt64) (xl : Int) (xy : Bool) (l : Sl (Sl Int)) [hl : HdD w0 L l] (hw : Mem w0 (blk k (wtcells (⟨⟨xc, xa, xg, xl⟩, xy⟩ : Wtr)) 141 :: fz xc :: L) w) (hpre : chipOk (cv xc) = true ∧ 3 ≤ (cv xc).blocks.length ∧ NmOk (cv xc) (flatI l.xs) ∧ (flatI l.xs).length ≤ 1000) : Calls Tryz.prog 153 #[.pointer (some ⟨k, 0, none⟩), l.sv.val] w fun e w' => ∃ zz : Cp, e = .returned (.tuple #[.int .i64 ((frontF (cv xc) (flatI l.xs) xy).2.1), .int .i64 ((frontF (cv xc) (flatI l.xs) xy).2.2)]) ∧ (cv zz = (frontF (cv xc) (flatI l.xs) xy).1) ∧ Mem w0 (blk k (wtcells (⟨⟨zz, xa, xg, xl⟩, xy⟩ : Wtr)) 141 :: fz zz :: L) w' := by
 obtain ⟨hk, h3b, hnm, hll⟩ := hpre
 have hkn := hnm.kn hk (by omega) (by omega)
 have hd := chip_dims hk
 have hbn := blksF_len (cv xc) (flatI l.xs)
 refine calls_in (args := [_, _]) Tryz.func153 rfl Tryz.ntmps153 rfl hw ?_
 change Cw _ _ _ _ _ [(0, .pointer (some ⟨k, 0, none⟩)), (1, l.sv.val)] (blk k (wtcells (⟨⟨xc, xa, xg, xl⟩, xy⟩ : Wtr)) 141 :: fz xc :: L)
 refine cw_seq ?_
 refine cw_region ?_
 refine sq_r (ry_assign rfl) ?_
 refine sq_r (ry_assign rfl) ?_
 refine sq_nil ?_
 refine ex_then ?_
 refine cw_seq ?_
 refine cw_lin [2] [[], [], [], [], [], [], [], [], [], [2], [2]] [0, 1, 3, 4, 5, 6, 7, 8, 2, 9, 10] [blk k (wtcells (⟨⟨xc, xa, xg, xl⟩, xy⟩ : Wtr)) 141, fz xc] (fun _ hw => Keep.mem hw) (by kernel_rfl) (by kernel_rfl) ?_
 refine ln_r rfl (ry_move rfl) ?_
 refine ln_r rfl (ry_move rfl) ?_
 refine ln_r rfl (ry_move rfl) ?_
 refine ln_r rfl (ry_nilp rfl) ?_
 refine ln_r rfl (ry_field (o' := 0) rfl rfl) ?_
 refine ln_r rfl (ry_field (o' := 0) rfl rfl) ?_
 refine ln_r rfl (ry_field (o' := 0) rfl rfl) ?_
 refine ln_r rfl (Ry.to (v' := .int .i64 xc.pages) (ry_cellc rfl) rfl) ?_
 refine ln_st rfl (st_callC rfl hkn fun x20 hp20 => ⟨fun _ hw => Keep.mem hw, ?_⟩)
 refine ln_r rfl (ry_assign rfl) ?_
 refine ln_r rfl (ry_assign rfl) ?_
 refine ln_nil ?_
 refine ex_then ?_
 refine cw_seq ?_
 refine cw_seq ?_
 refine cw_region ?_
 refine sq_r (ry_move rfl) ?_
 refine sq_callC rfl (by omega) fun x29 hp29 => ?_
 refine sq_r (ry_move rfl) ?_
 refine sq_y (yl_callC rfl trivial) ?_
 refine sq_r (ry_move rfl) ?_
 refine sq_r (ry_extract (v := .int .i64 ((frontW (onlyF livF (blksF (cv xc) (flatI l.xs))) xc.pages).1)) rfl rfl) ?_
 refine sq_r (ry_extract (v := .bool ((frontW (onlyF livF (blksF (cv xc) (flatI l.xs))) xc.pages).2)) rfl rfl) ?_
 refine sq_r (ry_assign rfl) ?_
 refine sq_r (ry_assign rfl) ?_
 refine sq_nil ?_
 refine ex_then ?_
 refine cw_seq ?_
 refine cw_region ?_
 refine sq_r (ry_move rfl) ?_
 refine sq_nil ?_
 refine ex_then ?_
 refine cw_cond rfl (fun h0 => ?_) (fun h0 => ?_)
 ·
  try simp only [Z0, Z1, Z2, Z3, Z4, Z5, Z6, Z7, Z8, Z9] at h0
  have h0d : (frontA (cv xc) (flatI l.xs)).2 = true := h0
  have hE : (frontF (cv xc) (flatI l.xs) xy) = (cv xc, (frontA (cv xc) (flatI l.xs)).1 + 2, 0) := by rw [frontF, if_pos h0d]
  have hrg := frontA_ok h0d
  change 0 ≤ (frontW (onlyF livF (blksF (cv xc) (flatI l.xs))) xc.pages).1 ∧ (frontW (onlyF livF (blksF (cv xc) (flatI l.xs))) xc.pages).1 < _ ∧ _ at hrg
  refine cw_seq ?_
  refine cw_region ?_
  refine sq_r (ry_move rfl) ?_
  refine sq_r (ry_add rfl rfl (by omega)) ?_
  refine sq_r (ry_assign rfl) ?_
  refine sq_r (ry_assign rfl) ?_
  refine sq_nil ?_
  refine ex_then ?_
  refine cw_ret ?_
  refine ex_pass_ret ?_
  refine ex_ret (.inl rfl) (res_2 rfl (rv_tmp rfl) (rv_tmp rfl)) (fun w1 hw => ?_)
  exact ⟨xc, by rw [hE]; rfl, by rw [hE], Keep.mem hw⟩
 ·
  try simp only [Z0, Z1, Z2, Z3, Z4, Z5, Z6, Z7, Z8, Z9] at h0
  have h0d : ¬ (frontA (cv xc) (flatI l.xs)).2 = true := fun h => by rw [show (frontA (cv xc) (flatI l.xs)).2 = false from h0] at h; cases h
  refine cw_skip ?_
  refine ex_then ?_
  refine cw_seq ?_
  refine cw_region ?_
  refine sq_r (ry_assign rfl) ?_
  refine sq_nil ?_
  refine ex_then ?_
  refine cw_seq ?_
  refine cw_seq ?_
  refine cw_region ?_
  refine sq_r (ry_move rfl) ?_
  refine sq_r (ry_lenH rfl) ?_
  refine sq_r (ry_move rfl) ?_
  refine sq_nil ?_
  refine ex_then ?_
  refine cw_block ?_
  refine cw_loop (X := Nat) (fun zz => [(39, .int .i64 (zz : Nat)), (10, .int .i64 ((((blksF (cv xc) (flatI l.xs)).take zz).filter fun z => !z.bad && decide (z.live = 0)).length : Nat)), (0, .pointer (some ⟨k, 0, none⟩)), (6, x20.val), (7, .int .i64 xc.pages), (37, x20.val), (38, .int .i64 ((blksF (cv xc) (flatI l.xs)).length : Nat))]) (fun zz => blk k (wtcells (⟨⟨xc, xa, xg, xl⟩, xy⟩ : Wtr)) 141 :: fz xc :: own weacells 4 x20 (blksF (cv xc) (flatI l.xs)) :: L) (fun zz => zz ≤ (blksF (cv xc) (flatI l.xs)).length) (fun zz => (blksF (cv xc) (flatI l.xs)).length - zz) 0 (Nat.zero_le _) (Sub.cons rfl (Sub.cons rfl (Sub.cons rfl (Sub.cons rfl (Sub.cons rfl (Sub.cons rfl (Sub.cons rfl (Sub.nil _)))))))) (fun w hw => Keep.mem hw) ?_
  rintro i hi1
  refine cw_seq ?_
  refine cw_region ?_
  refine sq_r (ry_int rfl rfl rfl) ?_
  refine sq_nil ?_
  refine ex_then ?_
  refine cw_seq ?_
  refine cw_cond rfl (fun h1 => ?_) (fun h1 => ?_)
  ·
   try simp only [Z0, Z1, Z2, Z3, Z4, Z5, Z6, Z7, Z8, Z9] at h1
   obtain ⟨z, hz⟩ := get_some (xs := (blksF (cv xc) (flatI l.xs))) (i := i) (by omega)
   have hsn := idle_snoc hz
   have hle := idle_le ((blksF (cv xc) (flatI l.xs)).take i)
   rw [List.length_take] at hle
   refine cw_skip ?_
   refine ex_then ?_
   refine cw_seq ?_
   refine cw_block ?_
   refine cw_seq ?_
   refine cw_region ?_
   refine sq_r (ry_idxH rfl rfl i rfl (by omega)) ?_
   refine sq_r (ry_elemH rfl i hz rfl) ?_
   refine sq_allocA fun b12 => ?_
   refine sq_storeW rfl rfl ?_
   refine sq_nil ?_
   refine ex_then ?_
   refine cw_seq ?_
   refine cw_region ?_
   refine sq_r (ry_field (o' := 3) rfl rfl) ?_
   refine sq_r (ry_cellc rfl) ?_
   refine sq_r (ry_not rfl) ?_
   refine sq_r (ry_move rfl) ?_
   refine sq_gt rfl rfl rfl (fun hg => (Ry.yl (ry_field (o' := 0) rfl rfl))) ?_
   refine sq_gt rfl rfl rfl (fun hg => (Ry.yl (ry_cellc (ev_c hg rfl)))) ?_
   refine sq_gt rfl rfl rfl (fun hg => (Ry.yl (ry_int (ev_c hg rfl) rfl rfl))) ?_
   refine sq_r (ry_and rfl rfl rfl) ?_
   refine sq_nil ?_
   refine ex_then ?_
   refine cw_cond rfl (fun h2 => ?_) (fun h2 => ?_)
   ·
    try simp only [Z0, Z1, Z2, Z3, Z4, Z5, Z6, Z7, Z8, Z9] at h2
    rw [if_pos (by simpa using h2)] at hsn
    refine cw_region ?_
    refine sq_r (ry_move rfl) ?_
    refine sq_r (ry_add rfl rfl (by omega)) ?_
    refine sq_r (ry_assign rfl) ?_
    refine sq_nil ?_
    refine ex_block ?_
    refine ex_then ?_
    refine cw_region ?_
    refine sq_r (ry_add rfl rfl (by omega)) ?_
    refine sq_r (ry_move rfl) ?_
    refine sq_nil ?_
    exact ex_again (x := (i)) (i + 1) (by first | omega | (simp only []; omega)) (by first | omega | (simp only []; omega)) (Sub.cons rfl (Sub.cons (look_eq rfl (by rw [hsn]; rfl)) (Sub.cons rfl (Sub.cons rfl (Sub.cons rfl (Sub.cons rfl (Sub.cons rfl (Sub.nil _)))))))) (fun w hw => Keep.mem hw)
   ·
    try simp only [Z0, Z1, Z2, Z3, Z4, Z5, Z6, Z7, Z8, Z9] at h2
    rw [if_neg (fun g => h2.elim (fun h => absurd (h.symm.trans g.1) (by simp)) (fun h => h g.2))] at hsn
    refine cw_skip ?_
    refine ex_block ?_
    refine ex_then ?_
    refine cw_region ?_
    refine sq_r (ry_add rfl rfl (by omega)) ?_
    refine sq_r (ry_move rfl) ?_
    refine sq_nil ?_
    exact ex_again (x := (i)) (i + 1) (by first | omega | (simp only []; omega)) (by first | omega | (simp only []; omega)) (Sub.cons rfl (Sub.cons (look_eq rfl (by rw [hsn, Nat.add_zero])) (Sub.cons rfl (Sub.cons rfl (Sub.cons rfl (Sub.cons rfl (Sub.cons rfl (Sub.nil _)))))))) (fun w hw => Keep.mem hw)
  ·
   try simp only [Z0, Z1, Z2, Z3, Z4, Z5, Z6, Z7, Z8, Z9] at h1
   obtain rfl : i = (blksF (cv xc) (flatI l.xs)).length := by omega
   have hid : idleF (blksF (cv xc) (flatI l.xs)) = (((blksF (cv xc) (flatI l.xs)).take (blksF (cv xc) (flatI l.xs)).length).filter fun z => !z.bad && decide (z.live = 0)).length := by rw [idleF, List.take_length]
   refine cw_exit ?_
   refine ex_pass_exit ?_
   refine ex_pass_exit ?_
   refine ex_block_hit ?_
   refine ex_then ?_
   refine cw_seq ?_
   refine cw_seq ?_
   refine cw_region ?_
   refine sq_r (ry_move rfl) ?_
   refine sq_r (ry_int rfl rfl rfl) ?_
   refine sq_r (ry_move rfl) ?_
   refine sq_gf rfl rfl rfl (fun hg => (Ry.yl (ry_move rfl))) ?_
   refine sq_gf rfl rfl rfl (fun hg => (Ry.yl (ry_int (ev_c hg rfl) rfl rfl))) ?_
   refine sq_gf rfl rfl rfl (fun hg => (Ry.yl (ry_move (ev_c hg rfl)))) ?_
   refine sq_nt rfl rfl rfl (fun hg => (Ry.yl (ry_move rfl))) ?_
   refine sq_nt rfl rfl rfl (fun hg => (Ry.yl (ry_nilp (ev_c hg rfl)))) ?_
   refine sq_nt rfl rfl rfl (fun hg => (Ry.yl (ry_field (o' := 9) (ev_c hg rfl) rfl))) ?_
   refine sq_nt rfl rfl rfl (fun hg => (Ry.yl (Ry.to (v' := .bool xy) (ry_cellc (ev_c hg rfl)) rfl))) ?_
   refine sq_nt rfl rfl rfl (fun hg => (Ry.yl (ry_not (ev_c hg rfl)))) ?_
   refine sq_gf rfl rfl rfl (fun hg => (Ry.yl (ry_and (ev_c hg rfl) (ev_cc hg rfl) rfl))) ?_
   refine sq_r (ry_or rfl rfl rfl) ?_
   refine sq_nil ?_
   refine ex_then ?_
   refine cw_cond rfl (fun h3 => ?_) (fun h3 => ?_)
   ·
    try simp only [Z0, Z1, Z2, Z3, Z4, Z5, Z6, Z7, Z8, Z9] at h3
    have h3d : idleF (blksF (cv xc) (flatI l.xs)) = 0 ∨ (idleF (blksF (cv xc) (flatI l.xs)) = 1 ∧ xy = false) := by
     rw [hid]
     rcases h3 with h | h
     ·
      exact .inl (by omega)
     ·
      exact .inr ⟨by omega, h.2⟩
    have hE : (frontF (cv xc) (flatI l.xs) xy) = (cv xc, 0, 5) := by rw [frontF, if_neg h0d, if_pos h3d]
    refine cw_seq ?_
    refine cw_region ?_
    refine sq_r (ry_assign rfl) ?_
    refine sq_r (ry_assign rfl) ?_
    refine sq_nil ?_
    refine ex_then ?_
    refine cw_ret ?_
    refine ex_pass_ret ?_
    refine ex_ret (.inl rfl) (res_2 rfl (rv_tmp rfl) (rv_tmp rfl)) (fun w1 hw => ?_)
    exact ⟨xc, by rw [hE], by rw [hE], Keep.mem hw⟩
   ·
    try simp only [Z0, Z1, Z2, Z3, Z4, Z5, Z6, Z7, Z8, Z9] at h3
    have h3d : ¬ (idleF (blksF (cv xc) (flatI l.xs)) = 0 ∨ (idleF (blksF (cv xc) (flatI l.xs)) = 1 ∧ xy = false)) := by
     rw [hid]
     rintro (h | h)
     ·
      exact h3.1 (by omega)
     ·
      rcases h3.2 with g | g
      ·
       exact g (by omega)
      ·
       rw [h.2] at g; cases g
    refine cw_skip ?_
    refine ex_then ?_
    refine cw_seq ?_
    refine cw_region ?_
    refine sq_r (ry_move rfl) ?_
    refine sq_callC rfl (by omega) fun x68 hp68 => ?_
    refine sq_r (ry_assign rfl) ?_
    refine sq_nil ?_
    refine ex_then ?_
    refine cw_seq ?_
    refine cw_seq ?_
    refine cw_region ?_
    refine sq_r (ry_move rfl) ?_
    refine sq_r (ry_move rfl) ?_
    refine sq_y (yl_callC rfl trivial) ?_
    refine sq_r (ry_move rfl) ?_
    refine sq_r (ry_extract (v := .int .i64 ((frontW (onlyF dedF (blksF (cv xc) (flatI l.xs))) xc.pages).1)) rfl rfl) ?_
    refine sq_r (ry_extract (v := .bool ((frontW (onlyF dedF (blksF (cv xc) (flatI l.xs))) xc.pages).2)) rfl rfl) ?_
    refine sq_r (ry_assign rfl) ?_
    refine sq_r (ry_assign rfl) ?_
    refine sq_nil ?_
    refine ex_then ?_
    refine cw_seq ?_
    refine cw_region ?_
    refine sq_r (ry_move rfl) ?_
    refine sq_nil ?_
    refine ex_then ?_
    refine cw_cond rfl (fun h4 => ?_) (fun h4 => ?_)
    ·
     try simp only [Z0, Z1, Z2, Z3, Z4, Z5, Z6, Z7, Z8, Z9] at h4
     have h4d : (frontB (cv xc) (flatI l.xs)).2 = true := h4
     have hE : (frontF (cv xc) (flatI l.xs) xy) = (cv xc, (frontB (cv xc) (flatI l.xs)).1 + 2, 0) := by rw [frontF, if_neg h0d, if_neg h3d, if_pos h4d]
     have hrg := frontB_ok h4d
     change 0 ≤ (frontW (onlyF dedF (blksF (cv xc) (flatI l.xs))) xc.pages).1 ∧ (frontW (onlyF dedF (blksF (cv xc) (flatI l.xs))) xc.pages).1 < _ ∧ _ at hrg
     refine cw_seq ?_
     refine cw_region ?_
     refine sq_r (ry_move rfl) ?_
     refine sq_r (ry_add rfl rfl (by omega)) ?_
     refine sq_r (ry_assign rfl) ?_
     refine sq_r (ry_assign rfl) ?_
     refine sq_nil ?_
     refine ex_then ?_
     refine cw_ret ?_
     refine ex_pass_ret ?_
     refine ex_ret (.inl rfl) (res_2 rfl (rv_tmp rfl) (rv_tmp rfl)) (fun w1 hw => ?_)
     exact ⟨xc, by rw [hE]; rfl, by rw [hE], Keep.mem hw⟩
    ·
     try simp only [Z0, Z1, Z2, Z3, Z4, Z5, Z6, Z7, Z8, Z9] at h4
     have h4d : ¬ (frontB (cv xc) (flatI l.xs)).2 = true := fun h => by rw [show (frontB (cv xc) (flatI l.xs)).2 = false from h4] at h; cases h
     obtain ⟨d1, d2, d3⟩ := frontD_ok hk h3b (fun e => h3d (.inl e)) h4d
     change 0 ≤ (deadW (onlyF dedF (blksF (cv xc) (flatI l.xs))) xc.pages).1 at d1
     change (deadW (onlyF dedF (blksF (cv xc) (flatI l.xs))) xc.pages).1 < _ at d2
     have hE : (frontF (cv xc) (flatI l.xs) xy) = ((clrF (cv xc) (frontD (cv xc) (flatI l.xs) + 2)).1, frontD (cv xc) (flatI l.xs) + 2, (clrF (cv xc) (frontD (cv xc) (flatI l.xs) + 2)).2) := by rw [frontF, if_neg h0d, if_neg h3d, if_neg h4d]
     refine cw_skip ?_
     refine ex_then ?_
     refine cw_seq ?_
     refine cw_region ?_
     refine sq_r (ry_move rfl) ?_
     refine sq_r (ry_move rfl) ?_
     refine sq_y (yl_callC rfl trivial) ?_
     refine sq_r (ry_move rfl) ?_
     refine sq_r (ry_extract (v := .int .i64 ((deadW (onlyF dedF (blksF (cv xc) (flatI l.xs))) xc.pages).1)) rfl rfl) ?_
     refine sq_r (ry_extract (v := .bool ((deadW (onlyF dedF (blksF (cv xc) (flatI l.xs))) xc.pages).2)) rfl rfl) ?_
     refine sq_r (ry_assign rfl) ?_
     refine sq_r (ry_assign rfl) ?_
     refine sq_nil ?_
     refine ex_then ?_
     refine cw_seq ?_
     refine cw_region ?_
     refine sq_r (ry_move rfl) ?_
     refine sq_r (ry_add rfl rfl (by omega)) ?_
     refine sq_r (ry_move rfl) ?_
     refine sq_r (ry_move rfl) ?_
     refine sq_r (ry_add rfl rfl (by omega)) ?_
     refine sq_callC rfl ⟨hk, by omega, by omega⟩ fun x89 hp89 => ?_
     refine sq_r (ry_assign rfl) ?_
     refine sq_r (ry_assign rfl) ?_
     refine sq_nil ?_
     refine ex_then ?_
     refine cw_ret ?_
     refine ex_ret (.inl rfl) (res_2 rfl (rv_tmp rfl) (rv_tmp rfl)) (fun w1 hw => ?_)
     exact ⟨x89, by rw [hE]; rfl, by rw [hp89, hE]; rfl, Keep.mem hw⟩
instance wfront_i {w0 : World} {L R1 L2 : List Ent} {i0 i1 : Nat} {k : Nat} {xc : Cp} {xa : Sl Int} {xg : UInt64} {xl : Int} {xy : Bool} {l : Sl (Sl Int)} [q0 : Has L k (wtcells (⟨⟨xc, xa, xg, xl⟩, xy⟩ : Wtr)) 141 i0] [d0 : DelI L i0 R1] [q1 : At R1 (fz xc) i1] [d1 : DelI R1 i1 L2] [hl : HdD w0 L2 l] : FnC Tryz.prog 153 w0 L [.pointer (some ⟨k, 0, none⟩), l.sv.val] (Cp) (fun zz => .tuple #[.int .i64 ((frontF (cv xc) (flatI l.xs) xy).2.1), .int .i64 ((frontF (cv xc) (flatI l.xs) xy).2.2)]) (fun zz => blk k (wtcells (⟨⟨zz, xa, xg, xl⟩, xy⟩ : Wtr)) 141 :: fz zz :: L2) (fun zz => cv zz = (frontF (cv xc) (flatI l.xs) xy).1) (chipOk (cv xc) = true ∧ 3 ≤ (cv xc).blocks.length ∧ NmOk (cv xc) (flatI l.xs) ∧ (flatI l.xs).length ≤ 1000) := ⟨fun hp w hw => wfront_c w0 w L2 k xc xa xg xl xy l (mem_two q0.h d0.h q1.h d1.h hw) hp⟩

end Go.Proofs.YtaipiecplldinaaGreat

/- A writer: a page placed. -/
namespace Go.Proofs.YtaipiecplldinaaGreat
open Go.Eng Go.Kb
open Go.RowKit
theorem wplace_c (w0 w : World) (L : List Ent) (k : Nat) (xc : Cp) (xa : Sl Int) (xg : UInt64) (xl : Int) (xy : Bool) (q : Pge) (l : Sl (Sl Int)) [hq : HdD w0 L q] [hl : HdD w0 L l] (hw : Mem w0 (blk k (wtcells (⟨⟨xc, xa, xg, xl⟩, xy⟩ : Wtr)) 141 :: fz xc :: L) w) (hpre : chipOk (cv xc) = true ∧ 3 ≤ (cv xc).blocks.length ∧ NmOk (cv xc) (flatI l.xs) ∧ (flatI l.xs).length ≤ 1000) : Calls Tryz.prog 127 #[.pointer (some ⟨k, 0, none⟩), .agg (pgcells q), l.sv.val] w fun e w' => ∃ zz : Cp, e = .returned (.tuple #[.int .i64 ((placeF (cv xc) (flatI l.xs) xy (pvv q)).2.1), .int .i64 ((placeF (cv xc) (flatI l.xs) xy (pvv q)).2.2)]) ∧ (cv zz = (placeF (cv xc) (flatI l.xs) xy (pvv q)).1) ∧ Mem w0 (blk k (wtcells (⟨⟨zz, xa, xg, xl⟩, xy⟩ : Wtr)) 141 :: fz zz :: L) w' := by
 obtain ⟨hk, h3b, hnm, hll⟩ := hpre
 have hd := chip_dims hk
 have hd2 : 1 ≤ xc.pages ∧ xc.pages ≤ 16 := ⟨hd.2.2.1, hd.2.2.2.1⟩
 refine calls_in (args := [_, _, _]) Tryz.func127 rfl Tryz.ntmps127 rfl hw ?_
 change Cw _ _ _ _ _ [(0, .pointer (some ⟨k, 0, none⟩)), (1, .agg (pgcells q)), (2, l.sv.val)] (blk k (wtcells (⟨⟨xc, xa, xg, xl⟩, xy⟩ : Wtr)) 141 :: fz xc :: L)
 refine cw_seq ?_
 refine cw_region ?_
 refine sq_boxA rfl fun b4 => ?_
 refine sq_r (ry_assign rfl) ?_
 refine sq_r (ry_assign rfl) ?_
 refine sq_nil ?_
 refine ex_then ?_
 refine cw_seq ?_
 refine cw_lin [7] [[], [], [], [], [], [], [], [], [7], [7], [7], [7], [7]] [0, 1, 2, 3, 4, 5, 6, 7, 8, 9, 10, 11, 12] [blk b4 (pgcells q) 110, blk k (wtcells (⟨⟨xc, xa, xg, xl⟩, xy⟩ : Wtr)) 141, fz xc] (fun _ hw => Keep.mem hw) (by kernel_rfl) (by kernel_rfl) ?_
 refine ln_r rfl (ry_whole rfl) ?_
 refine ln_r rfl (ry_move rfl) ?_
 refine ln_r rfl (ry_nilp rfl) ?_
 refine ln_r rfl (ry_field (o' := 0) rfl rfl) ?_
 refine ln_r rfl (ry_field (o' := 0) rfl rfl) ?_
 refine ln_r rfl (ry_field (o' := 1) rfl rfl) ?_
 refine ln_r rfl (Ry.to (v' := .int .i64 xc.size) (ry_cellc rfl) rfl) ?_
 refine ln_st rfl (st_callC rfl trivial fun x21 hp21 => ⟨fun _ hw => Keep.mem hw, ?_⟩)
 skip
 refine ln_r rfl (ry_move rfl) ?_
 refine ln_r rfl (ry_extract (v := x21.val) rfl rfl) ?_
 refine ln_r rfl (ry_extract (v := .int .i64 ((putF (pvv q) xc.size).2)) rfl rfl) ?_
 refine ln_r rfl (ry_assign rfl) ?_
 refine ln_r rfl (ry_assign rfl) ?_
 refine ln_nil ?_
 refine ex_then ?_
 refine cw_seq ?_
 refine cw_seq ?_
 refine cw_region ?_
 refine sq_r (ry_move rfl) ?_
 refine sq_r (ry_int rfl rfl rfl) ?_
 refine sq_nil ?_
 refine ex_then ?_
 refine cw_cond rfl (fun h0 => ?_) (fun h0 => ?_)
 ·
  try simp only [Z0, Z1, Z2, Z3, Z4, Z5, Z6, Z7, Z8, Z9] at h0
  have hE : (placeF (cv xc) (flatI l.xs) xy (pvv q)) = (cv xc, 0, (putF (pvv q) xc.size).2) := by rw [placeF, if_pos (show (putF (pvv q) (cv xc).size).2 ≠ 0 from h0)]; rfl
  refine cw_seq ?_
  refine cw_region ?_
  refine sq_r (ry_move rfl) ?_
  refine sq_r (ry_assign rfl) ?_
  refine sq_r (ry_assign rfl) ?_
  refine sq_nil ?_
  refine ex_then ?_
  refine cw_ret ?_
  refine ex_pass_ret ?_
  refine ex_ret (.inl rfl) (res_2 rfl (rv_tmp rfl) (rv_tmp rfl)) (fun w1 hw => ?_)
  exact ⟨xc, by rw [hE], by rw [hE], Keep.mem hw⟩
 ·
  try simp only [Z0, Z1, Z2, Z3, Z4, Z5, Z6, Z7, Z8, Z9] at h0
  refine cw_skip ?_
  refine ex_then ?_
  refine cw_block ?_
  refine cw_loop (X := Nat × Cp) (fun zz => [(0, .pointer (some ⟨k, 0, none⟩)), (2, l.sv.val), (8, x21.val)]) (fun zz => blk k (wtcells (⟨⟨zz.2, xa, xg, xl⟩, xy⟩ : Wtr)) 141 :: fz zz.2 :: own benc 1 x21 (putF (pvv q) xc.size).1 :: L) (fun zz => (placeF (cv xc) (flatI l.xs) xy (pvv q)) = placeTo zz.1 (cv zz.2) (flatI l.xs) xy (putF (pvv q) xc.size).1 ∧ chipOk (cv zz.2) = true ∧ Like (cv xc) (cv zz.2) ∧ (ctop - (cv zz.2).ops).toNat < zz.1) (fun zz => zz.1) ((ctop - (cv xc).ops).toNat + 1, xc) ⟨by rw [placeF, if_neg (show ¬ (putF (pvv q) (cv xc).size).2 ≠ 0 from fun h => h h0)]; rfl, hk, .rfl' _, by simp only; omega⟩ (Sub.cons rfl (Sub.cons rfl (Sub.cons rfl (Sub.nil _)))) (fun w hw => Keep.mem hw) ?_
  rintro ⟨m, d⟩ ⟨hi1, hi2, hi3, hi4⟩
  dsimp only
  simp only at hi1 hi2 hi3 hi4
  obtain ⟨n, rfl⟩ : ∃ n, m = n + 1 := ⟨m - 1, by omega⟩
  refine cw_block ?_
  refine cw_seq ?_
  refine cw_region ?_
  refine sq_r (ry_move rfl) ?_
  refine sq_r (ry_move rfl) ?_
  refine sq_callC rfl ⟨hi2, by rw [hi3.len]; exact h3b, hnm.like hi3, hll⟩ fun x30 hp30 => ?_
  obtain ⟨f1, f2, f3, f4, f5⟩ := frontF_ok (c := cv d) (fl := (flatI l.xs)) (by_ := xy) hi2 (by rw [hi3.len]; exact h3b)
  rw [← hp30] at f1 f2 f3 f4 f5
  have f6 := hi3.trans f2
  have hbl : (cv x30).blocks.length = x30.blocks.xs.length := bvs_length _
  have hl6 := f6.len
  have hpg : x30.pages = xc.pages := f6.pages
  have hl3 := hi3.len
  have hdl := ops_le f1
  refine sq_r (ry_move rfl) ?_
  refine sq_r (ry_extract (v := .int .i64 ((frontF (cv d) (flatI l.xs) xy).2.1)) rfl rfl) ?_
  refine sq_r (ry_extract (v := .int .i64 ((frontF (cv d) (flatI l.xs) xy).2.2)) rfl rfl) ?_
  refine sq_r (ry_assign rfl) ?_
  refine sq_r (ry_assign rfl) ?_
  refine sq_nil ?_
  refine ex_then ?_
  refine cw_seq ?_
  refine cw_seq ?_
  refine cw_region ?_
  refine sq_r (ry_move rfl) ?_
  refine sq_r (ry_int rfl rfl rfl) ?_
  refine sq_nil ?_
  refine ex_then ?_
  refine cw_cond rfl (fun h1 => ?_) (fun h1 => ?_)
  ·
   try simp only [Z0, Z1, Z2, Z3, Z4, Z5, Z6, Z7, Z8, Z9] at h1
   have h1d : (frontF (cv d) (flatI l.xs) xy).2.2 = 0 := h1
   obtain ⟨g1, g2, g3⟩ := f4 h1d
   obtain ⟨B, hB⟩ := get_some (xs := x30.blocks.xs) (i := (frontF (cv d) (flatI l.xs) xy).2.1.toNat) (by omega)
   have mbB : Mb B x30.blocks := ⟨List.mem_of_getElem? hB⟩
   have hBv := blk_of hB
   have hBo := bkOk_iff.1 (blkAt_okN f1 (b := (frontF (cv d) (flatI l.xs) xy).2.1) (by omega) (by omega))
   have hBu : (blkAt (cv x30) (frontF (cv d) (flatI l.xs) xy).2.1).used = B.used := by rw [hBv]; rfl
   rw [hBu] at hBo
   have hcp : (cv x30).pages = xc.pages := hpg
   rw [hcp] at hBo
   have hm0 : 0 ≤ (frontF (cv d) (flatI l.xs) xy).2.1 * xc.pages := Int.mul_nonneg (by omega) (by omega)
   have hm1 : (frontF (cv d) (flatI l.xs) xy).2.1 * xc.pages ≤ 32 * 16 := Int.mul_le_mul (by omega) (by omega) (by omega) (by omega)
   refine cw_seq ?_
   refine cw_quiet (by kernel_rfl) (by kernel_rfl) ?_
   refine qt_r (ry_move rfl) ?_
   refine qt_r (ry_move rfl) ?_
   refine qt_r (ry_nilp rfl) ?_
   refine qt_r (ry_field (o' := 0) rfl rfl) ?_
   refine qt_r (ry_field (o' := 0) rfl rfl) ?_
   refine qt_r (ry_field (o' := 0) rfl rfl) ?_
   refine qt_r (Ry.to (v' := .int .i64 xc.pages) (ry_cellc rfl) (by rw [← hpg])) ?_
   refine qt_r (ry_mul rfl rfl (by omega)) ?_
   refine qt_r (ry_move rfl) ?_
   refine qt_r (ry_nilp rfl) ?_
   refine qt_r (ry_field (o' := 0) rfl rfl) ?_
   refine qt_r (ry_field (o' := 0) rfl rfl) ?_
   refine qt_r (ry_field (o' := 2) rfl rfl) ?_
   refine qt_r (Ry.to (v' := x30.blocks.sv.val) (ry_cellc rfl) rfl) ?_
   refine qt_r (ry_move rfl) ?_
   refine qt_r (ry_idxH rfl rfl ((frontF (cv d) (flatI l.xs) xy).2.1.toNat) (by omega) (by omega)) ?_
   refine qt_r (ry_field rfl rfl) ?_
   refine qt_r (ry_elemcH (j := 1) rfl ((frontF (cv d) (flatI l.xs) xy).2.1.toNat) hB rfl (by decide)) ?_
   refine qt_r (ry_add rfl rfl (by omega)) ?_
   refine qt_r (ry_add rfl rfl (by omega)) ?_
   refine qt_r (ry_assign rfl) ?_
   refine qt_nil ?_
   refine ex_then ?_
   refine cw_seq ?_
   refine cw_region ?_
   refine sq_r (ry_move rfl) ?_
   refine sq_r (ry_move rfl) ?_
   refine sq_r (ry_move rfl) ?_
   refine sq_callC rfl ⟨f1, by omega, by omega⟩ fun x58 hp58 => ?_
   refine sq_r (ry_assign rfl) ?_
   refine sq_nil ?_
   refine ex_then ?_
   refine cw_seq ?_
   refine cw_region ?_
   refine sq_r (ry_move rfl) ?_
   refine sq_r (ry_int rfl rfl rfl) ?_
   refine sq_nil ?_
   refine ex_then ?_
   refine cw_cond rfl (fun h2 => ?_) (fun h2 => ?_)
   ·
    try simp only [Z0, Z1, Z2, Z3, Z4, Z5, Z6, Z7, Z8, Z9] at h2
    have h2d : (progWE (cv x30) (frontF (cv d) (flatI l.xs) xy).2.1 (putF (pvv q) xc.size).1) = 0 := h2
    have hE : (placeF (cv xc) (flatI l.xs) xy (pvv q)) = (progW (cv x30) (frontF (cv d) (flatI l.xs) xy).2.1 (putF (pvv q) xc.size).1, (frontF (cv d) (flatI l.xs) xy).2.1 * xc.pages + B.used + 1, 0) := by
     rw [hi1, placeTo, ← hp30, if_pos h1d, if_pos h2d, hBu, show (cv d).pages = xc.pages from hi3.pages]
    refine cw_seq ?_
    refine cw_region ?_
    refine sq_r (ry_move rfl) ?_
    refine sq_r (ry_assign rfl) ?_
    refine sq_r (ry_assign rfl) ?_
    refine sq_nil ?_
    refine ex_then ?_
    refine cw_ret ?_
    refine ex_pass_ret ?_
    refine ex_block_ret ?_
    refine ex_pass_ret ?_
    refine ex_block_ret ?_
    refine ex_ret (.inl rfl) (res_2 rfl (rv_tmp rfl) (rv_tmp rfl)) (fun w1 hw => ?_)
    exact ⟨x58, by rw [hE], by rw [hE, hp58], Keep.mem hw⟩
   ·
    try simp only [Z0, Z1, Z2, Z3, Z4, Z5, Z6, Z7, Z8, Z9] at h2
    have h2d : ¬ (progWE (cv x30) (frontF (cv d) (flatI l.xs) xy).2.1 (putF (pvv q) xc.size).1) = 0 := h2
    refine cw_skip ?_
    refine ex_then ?_
    refine cw_seq ?_
    refine cw_region ?_
    refine sq_r (ry_move rfl) ?_
    refine sq_r (ry_int rfl rfl rfl) ?_
    refine sq_nil ?_
    refine ex_then ?_
    refine cw_cond rfl (fun h3 => ?_) (fun h3 => ?_)
    ·
     try simp only [Z0, Z1, Z2, Z3, Z4, Z5, Z6, Z7, Z8, Z9] at h3
     refine cw_seq ?_
     refine cw_region ?_
     refine sq_r (ry_move rfl) ?_
     refine sq_r (ry_assign rfl) ?_
     refine sq_r (ry_assign rfl) ?_
     refine sq_nil ?_
     refine ex_then ?_
     refine cw_ret ?_
     refine ex_block_ret ?_
     refine ex_pass_ret ?_
     refine ex_block_ret ?_
     refine ex_ret (.inl rfl) (res_2 rfl (rv_tmp rfl) (rv_tmp rfl)) (fun w1 hw => ?_)
     exact ⟨x58, by rw [hi1, placeTo, ← hp30, if_pos h1d, if_neg h2d, if_pos (show (progWE (cv x30) (frontF (cv d) (flatI l.xs) xy).2.1 (putF (pvv q) xc.size).1) ≠ 9 from h3)], by rw [hp58, hi1, placeTo, ← hp30, if_pos h1d, if_neg h2d, if_pos (show (progWE (cv x30) (frontF (cv d) (flatI l.xs) xy).2.1 (putF (pvv q) xc.size).1) ≠ 9 from h3)], Keep.mem hw⟩
    ·
     try simp only [Z0, Z1, Z2, Z3, Z4, Z5, Z6, Z7, Z8, Z9] at h3
     refine cw_skip ?_
     refine ex_block ?_
     have h3d : (progWE (cv x30) (frontF (cv d) (flatI l.xs) xy).2.1 (putF (pvv q) xc.size).1) = 9 := h3
     have hq9 := ops_progW g3 (p := (putF (pvv q) xc.size).1) (.inl h3d)
     have hle9 := ops_le (progW_ok f1 (frontF (cv d) (flatI l.xs) xy).2.1 (putF (pvv q) xc.size).1)
     rw [hq9] at hle9
     exact ex_again (x := (n + 1, d)) (n, x58) ⟨by rw [hi1, placeTo, ← hp30, if_pos h1d, if_neg h2d, if_neg (by simpa using h3d), hp58], by rw [hp58]; exact progW_ok f1 _ _, by rw [hp58]; exact f6.trans (progW_like _ _ _), by rw [hp58, hq9]; omega⟩ (by simp only; omega) (Sub.cons rfl (Sub.cons rfl (Sub.cons rfl (Sub.nil _)))) (fun w hw => Keep.mem hw)
  ·
   try simp only [Z0, Z1, Z2, Z3, Z4, Z5, Z6, Z7, Z8, Z9] at h1
   have h1d : ¬ (frontF (cv d) (flatI l.xs) xy).2.2 = 0 := h1
   refine cw_skip ?_
   refine ex_then ?_
   refine cw_seq ?_
   refine cw_region ?_
   refine sq_r (ry_move rfl) ?_
   refine sq_r (ry_int rfl rfl rfl) ?_
   refine sq_nil ?_
   refine ex_then ?_
   refine cw_cond rfl (fun h3 => ?_) (fun h3 => ?_)
   ·
    try simp only [Z0, Z1, Z2, Z3, Z4, Z5, Z6, Z7, Z8, Z9] at h3
    refine cw_seq ?_
    refine cw_region ?_
    refine sq_r (ry_move rfl) ?_
    refine sq_r (ry_assign rfl) ?_
    refine sq_r (ry_assign rfl) ?_
    refine sq_nil ?_
    refine ex_then ?_
    refine cw_ret ?_
    refine ex_block_ret ?_
    refine ex_pass_ret ?_
    refine ex_block_ret ?_
    refine ex_ret (.inl rfl) (res_2 rfl (rv_tmp rfl) (rv_tmp rfl)) (fun w1 hw => ?_)
    exact ⟨x30, by rw [hi1, placeTo, if_neg h1d, if_pos (show (frontF (cv d) (flatI l.xs) xy).2.2 ≠ 9 from h3)], by rw [hp30, hi1, placeTo, if_neg h1d, if_pos (show (frontF (cv d) (flatI l.xs) xy).2.2 ≠ 9 from h3)], Keep.mem hw⟩
   ·
    try simp only [Z0, Z1, Z2, Z3, Z4, Z5, Z6, Z7, Z8, Z9] at h3
    refine cw_skip ?_
    refine ex_block ?_
    have h3d : (frontF (cv d) (flatI l.xs) xy).2.2 = 9 := h3
    exact ex_again (x := (n + 1, d)) (n, x30) ⟨by rw [hi1, placeTo, if_neg h1d, if_neg (by simpa using h3d), hp30], f1, f6, by have := f5 h3d; simp only; omega⟩ (by simp only; omega) (Sub.cons rfl (Sub.cons rfl (Sub.cons rfl (Sub.nil _)))) (fun w hw => Keep.mem hw)
instance wplace_i {w0 : World} {L R1 L2 : List Ent} {i0 i1 : Nat} {k : Nat} {xc : Cp} {xa : Sl Int} {xg : UInt64} {xl : Int} {xy : Bool} {q : Pge} {l : Sl (Sl Int)} [q0 : Has L k (wtcells (⟨⟨xc, xa, xg, xl⟩, xy⟩ : Wtr)) 141 i0] [d0 : DelI L i0 R1] [q1 : At R1 (fz xc) i1] [d1 : DelI R1 i1 L2] [hq : HdD w0 L2 q] [hl : HdD w0 L2 l] : FnC Tryz.prog 127 w0 L [.pointer (some ⟨k, 0, none⟩), .agg (pgcells q), l.sv.val] (Cp) (fun zz => .tuple #[.int .i64 ((placeF (cv xc) (flatI l.xs) xy (pvv q)).2.1), .int .i64 ((placeF (cv xc) (flatI l.xs) xy (pvv q)).2.2)]) (fun zz => blk k (wtcells (⟨⟨zz, xa, xg, xl⟩, xy⟩ : Wtr)) 141 :: fz zz :: L2) (fun zz => cv zz = (placeF (cv xc) (flatI l.xs) xy (pvv q)).1) (chipOk (cv xc) = true ∧ 3 ≤ (cv xc).blocks.length ∧ NmOk (cv xc) (flatI l.xs) ∧ (flatI l.xs).length ≤ 1000) := ⟨fun hp w hw => wplace_c w0 w L2 k xc xa xg xl xy q l (mem_two q0.h d0.h q1.h d1.h hw) hp⟩

end Go.Proofs.YtaipiecplldinaaGreat

/- A writer: roots written. -/
namespace Go.Proofs.YtaipiecplldinaaGreat
open Go.Eng Go.Kb
open Go.RowKit
theorem wrootblk_c (w0 w : World) (L : List Ent) (k : Nat) (xc : Cp) (xa : Sl Int) (xg : UInt64) (xl : Int) (xy : Bool)   (hw : Mem w0 (blk k (wtcells (⟨⟨xc, xa, xg, xl⟩, xy⟩ : Wtr)) 141 :: fz xc :: L) w) (hpre : chipOk (cv xc) = true ∧ 2 ≤ (cv xc).blocks.length ∧ (xl = 0 ∨ xl = 1)) : Calls Tryz.prog 154 #[.pointer (some ⟨k, 0, none⟩)] w fun e w' => ∃ zz : Cp, e = .returned (.tuple #[.int .i64 ((rootBlkF (cv xc) xl).2.1), .int .i64 ((rootBlkF (cv xc) xl).2.2)]) ∧ (cv zz = (rootBlkF (cv xc) xl).1) ∧ Mem w0 (blk k (wtcells (⟨⟨zz, xa, xg, xl⟩, xy⟩ : Wtr)) 141 :: fz zz :: L) w' := by
 obtain ⟨hk, hb2, hb3⟩ := hpre
 have hbl : (cv xc).blocks.length = xc.blocks.xs.length := bvs_length _
 obtain ⟨Bo, hBo⟩ := get_some (xs := xc.blocks.xs) (i := (1 - xl).toNat) (by omega)
 have mbo : Mb Bo xc.blocks := ⟨List.mem_of_getElem? hBo⟩
 have hBov := blk_of hBo
 refine calls_in (args := [_]) Tryz.func154 rfl Tryz.ntmps154 rfl hw ?_
 change Cw _ _ _ _ _ [(0, .pointer (some ⟨k, 0, none⟩))] (blk k (wtcells (⟨⟨xc, xa, xg, xl⟩, xy⟩ : Wtr)) 141 :: fz xc :: L)
 refine cw_seq ?_
 refine cw_region ?_
 refine sq_r (ry_assign rfl) ?_
 refine sq_r (ry_assign rfl) ?_
 refine sq_nil ?_
 refine ex_then ?_
 refine cw_seq ?_
 refine cw_region ?_
 refine sq_r (ry_move rfl) ?_
 refine sq_r (ry_nilp rfl) ?_
 refine sq_r (ry_field (o' := 0) rfl rfl) ?_
 refine sq_r (ry_field (o' := 8) rfl rfl) ?_
 refine sq_r (Ry.to (v' := .int .i64 xl) (ry_cellc rfl) rfl) ?_
 refine sq_r (ry_sub rfl rfl (by omega)) ?_
 refine sq_r (ry_assign rfl) ?_
 refine sq_nil ?_
 refine ex_then ?_
 refine cw_seq ?_
 refine cw_seq ?_
 refine cw_region ?_
 refine sq_r (ry_move rfl) ?_
 refine sq_r (ry_nilp rfl) ?_
 refine sq_r (ry_field (o' := 0) rfl rfl) ?_
 refine sq_r (ry_field (o' := 8) rfl rfl) ?_
 refine sq_r (Ry.to (v' := .int .i64 xl) (ry_cellc rfl) rfl) ?_
 refine sq_r (ry_move rfl) ?_
 refine sq_buildSlice (enc := iec) (vals := [_, _]) [xl, 1 - xl] rfl rfl rfl (by decide) (by decide) fun b19 => ?_
 refine sq_r (ry_lenH rfl) ?_
 refine sq_r (ry_move rfl) ?_
 refine sq_nil ?_
 refine ex_then ?_
 refine cw_block ?_
 refine cw_loop (X := Nat) (fun zz => [(21, .int .i64 (zz : Nat)), (0, .pointer (some ⟨k, 0, none⟩)), (4, .int .i64 (1 - xl)), (19, (⟨false, b19, 0, 2, 2, none⟩ : Sv).val), (20, .int .i64 ([xl, 1 - xl].length : Nat))]) (fun zz => blk k (wtcells (⟨⟨xc, xa, xg, xl⟩, xy⟩ : Wtr)) 141 :: fz xc :: own iec 1 ⟨false, b19, 0, 2, 2, none⟩ [xl, 1 - xl] :: L) (fun zz => zz ≤ 2 ∧ ∀ (j : Nat) (y : Int), j < zz → [xl, 1 - xl][j]? = Option.some y → ¬ 0 < freeF (cv xc) y) (fun zz => 2 - zz) 0 ⟨Nat.zero_le _, fun j y hj => by first | omega | (simp only []; omega)⟩ (Sub.cons rfl (Sub.cons rfl (Sub.cons rfl (Sub.cons rfl (Sub.cons rfl (Sub.nil _)))))) (fun w hw => Keep.mem hw) ?_
 rintro i ⟨hi1, hi2⟩
 refine cw_seq ?_
 refine cw_region ?_
 refine sq_r (ry_int rfl rfl rfl) ?_
 refine sq_nil ?_
 refine ex_then ?_
 refine cw_seq ?_
 refine cw_cond rfl (fun h0 => ?_) (fun h0 => ?_)
 ·
  try simp only [Z0, Z1, Z2, Z3, Z4, Z5, Z6, Z7, Z8, Z9] at h0
  obtain ⟨y, hy⟩ := get_some (xs := [xl, 1 - xl]) (i := i) (by simp only [List.length_cons, List.length_nil] at h0 ⊢; omega)
  have hi01 : i = 0 ∨ i = 1 := by simp only [List.length_cons, List.length_nil] at h0; omega
  have hyr : y = 0 ∨ y = 1 := by
   have := List.mem_of_getElem? hy
   simp only [List.mem_cons, List.not_mem_nil, or_false] at this
   omega
  refine cw_skip ?_
  refine ex_then ?_
  refine cw_seq ?_
  refine cw_block ?_
  refine cw_seq ?_
  refine cw_region ?_
  refine sq_r (ry_idxH rfl rfl i rfl (by omega)) ?_
  refine sq_r (ry_elemcH (j := 0) rfl i hy rfl (by decide)) ?_
  refine sq_r (ry_assign rfl) ?_
  refine sq_nil ?_
  refine ex_then ?_
  refine cw_seq ?_
  refine cw_region ?_
  refine sq_r (ry_move rfl) ?_
  refine sq_r (ry_move rfl) ?_
  refine sq_y (yl_callC rfl ⟨hk, by omega, by omega⟩) ?_
  refine sq_r (ry_int rfl rfl rfl) ?_
  refine sq_nil ?_
  refine ex_then ?_
  refine cw_cond rfl (fun h1 => ?_) (fun h1 => ?_)
  ·
   try simp only [Z0, Z1, Z2, Z3, Z4, Z5, Z6, Z7, Z8, Z9] at h1
   have hE : (rootBlkF (cv xc) xl) = (cv xc, y, 0) := by
    rcases hi01 with rfl | rfl
    ·
     obtain rfl : xl = y := by simpa using hy
     rw [rootBlkF, if_pos h1]
    ·
     obtain rfl : 1 - xl = y := by simpa using hy
     rw [rootBlkF, if_neg (hi2 0 xl (by omega) rfl), if_pos h1]
   refine cw_seq ?_
   refine cw_region ?_
   refine sq_r (ry_move rfl) ?_
   refine sq_r (ry_assign rfl) ?_
   refine sq_r (ry_assign rfl) ?_
   refine sq_nil ?_
   refine ex_then ?_
   refine cw_ret ?_
   refine ex_block_ret ?_
   refine ex_pass_ret ?_
   refine ex_pass_ret ?_
   refine ex_block_ret ?_
   refine ex_pass_ret ?_
   refine ex_ret (.inl rfl) (res_2 rfl (rv_tmp rfl) (rv_tmp rfl)) (fun w1 hw => ?_)
   exact ⟨xc, by rw [hE], by rw [hE], Keep.mem hw⟩
  ·
   try simp only [Z0, Z1, Z2, Z3, Z4, Z5, Z6, Z7, Z8, Z9] at h1
   refine cw_skip ?_
   refine ex_block ?_
   refine ex_then ?_
   refine cw_region ?_
   refine sq_r (ry_add rfl rfl (by omega)) ?_
   refine sq_r (ry_move rfl) ?_
   refine sq_nil ?_
   exact ex_again (x := (i)) (i + 1) ⟨by first | omega | (simp only []; omega), fun j z hj hz => if e : j = i then (by subst e; rw [hy] at hz; cases hz; exact h1) else hi2 j z (by first | omega | (simp only []; omega)) hz⟩ (by first | omega | (simp only []; omega)) (Sub.cons rfl (Sub.cons rfl (Sub.cons rfl (Sub.cons rfl (Sub.cons rfl (Sub.nil _)))))) (fun w hw => Keep.mem hw)
 ·
  try simp only [Z0, Z1, Z2, Z3, Z4, Z5, Z6, Z7, Z8, Z9] at h0
  have hi9 : i = 2 := by simp only [List.length_cons, List.length_nil] at h0 hi1; omega
  subst hi9
  have hn0 := hi2 0 xl (by omega) rfl
  have hn1 := hi2 1 (1 - xl) (by omega) rfl
  refine cw_exit ?_
  refine ex_pass_exit ?_
  refine ex_pass_exit ?_
  refine ex_block_hit ?_
  refine ex_then ?_
  refine cw_seq ?_
  refine cw_seq ?_
  refine cw_region ?_
  refine sq_r (ry_move rfl) ?_
  refine sq_r (ry_nilp rfl) ?_
  refine sq_r (ry_field (o' := 0) rfl rfl) ?_
  refine sq_r (ry_field (o' := 0) rfl rfl) ?_
  refine sq_r (ry_field (o' := 2) rfl rfl) ?_
  refine sq_r (Ry.to (v' := xc.blocks.sv.val) (ry_cellc rfl) rfl) ?_
  refine sq_r (ry_move rfl) ?_
  refine sq_r (ry_idxH rfl rfl ((1 - xl).toNat) (by omega) (by omega)) ?_
  refine sq_r (ry_field rfl rfl) ?_
  refine sq_r (ry_elemcH (j := 3) rfl ((1 - xl).toNat) hBo rfl (by decide)) ?_
  refine sq_nil ?_
  refine ex_then ?_
  refine cw_cond rfl (fun h2 => ?_) (fun h2 => ?_)
  ·
   try simp only [Z0, Z1, Z2, Z3, Z4, Z5, Z6, Z7, Z8, Z9] at h2
   have hE : (rootBlkF (cv xc) xl) = (cv xc, 0, 9) := by rw [rootBlkF, if_neg hn0, if_neg hn1, hBov, if_pos (show (bv Bo).bad = true from h2)]
   refine cw_seq ?_
   refine cw_region ?_
   refine sq_r (ry_assign rfl) ?_
   refine sq_r (ry_assign rfl) ?_
   refine sq_nil ?_
   refine ex_then ?_
   refine cw_ret ?_
   refine ex_pass_ret ?_
   refine ex_ret (.inl rfl) (res_2 rfl (rv_tmp rfl) (rv_tmp rfl)) (fun w1 hw => ?_)
   exact ⟨xc, by rw [hE], by rw [hE], Keep.mem hw⟩
  ·
   try simp only [Z0, Z1, Z2, Z3, Z4, Z5, Z6, Z7, Z8, Z9] at h2
   have hE : (rootBlkF (cv xc) xl) = (erasW (cv xc) (1 - xl), 1 - xl, eraseE (cv xc) (1 - xl)) := by rw [rootBlkF, if_neg hn0, if_neg hn1, hBov, if_neg (show ¬ (bv Bo).bad = true by rw [show (bv Bo).bad = Bo.bad from rfl, h2]; simp)]
   refine cw_skip ?_
   refine ex_then ?_
   refine cw_seq ?_
   refine cw_region ?_
   refine sq_r (ry_move rfl) ?_
   refine sq_r (ry_move rfl) ?_
   refine sq_r (ry_move rfl) ?_
   refine sq_callC rfl ⟨hk, by omega, by omega⟩ fun x44 hp44 => ?_
   refine sq_r (ry_assign rfl) ?_
   refine sq_r (ry_assign rfl) ?_
   refine sq_nil ?_
   refine ex_then ?_
   refine cw_ret ?_
   refine ex_ret (.inl rfl) (res_2 rfl (rv_tmp rfl) (rv_tmp rfl)) (fun w1 hw => ?_)
   exact ⟨x44, by rw [hE], by rw [hp44, hE], Keep.mem hw⟩
instance wrootblk_i {w0 : World} {L R1 L2 : List Ent} {i0 i1 : Nat} {k : Nat} {xc : Cp} {xa : Sl Int} {xg : UInt64} {xl : Int} {xy : Bool}  [q0 : Has L k (wtcells (⟨⟨xc, xa, xg, xl⟩, xy⟩ : Wtr)) 141 i0] [d0 : DelI L i0 R1] [q1 : At R1 (fz xc) i1] [d1 : DelI R1 i1 L2]  : FnC Tryz.prog 154 w0 L [.pointer (some ⟨k, 0, none⟩)] (Cp) (fun zz => .tuple #[.int .i64 ((rootBlkF (cv xc) xl).2.1), .int .i64 ((rootBlkF (cv xc) xl).2.2)]) (fun zz => blk k (wtcells (⟨⟨zz, xa, xg, xl⟩, xy⟩ : Wtr)) 141 :: fz zz :: L2) (fun zz => cv zz = (rootBlkF (cv xc) xl).1) (chipOk (cv xc) = true ∧ 2 ≤ (cv xc).blocks.length ∧ (xl = 0 ∨ xl = 1)) := ⟨fun hp w hw => wrootblk_c w0 w L2 k xc xa xg xl xy  (mem_two q0.h d0.h q1.h d1.h hw) hp⟩
theorem u64_succ {g : UInt64} (h : g.toNat < 281474976710656) : (g + 1).toNat = g.toNat + 1 := by
 rw [UInt64.toNat_add, show (1 : UInt64).toNat = 1 from rfl, Nat.mod_eq_of_lt (by omega)]
theorem rts_build (g : UInt64) (s : Sv) (xs : List Int) (w : World) : (Instr.build 147 #[(0, .int .u64 (g.toNat : Int)), (1, s.val)]).run Tryz.prog w = .ok (.agg (rtcells ⟨g, ⟨s, xs⟩⟩)) w := by
 obtain ⟨e, b, o, l, c, p⟩ := s
 unfold rtcells
 cases e <;> kernel_rfl
theorem wwrite_c (w0 w : World) (L : List Ent) (k : Nat) (xc : Cp) (xa : Sl Int) (xg : UInt64) (xl : Int) (xy : Bool) (s : Sv) (ss : List Int)   (hw : Mem w0 (blk k (wtcells (⟨⟨xc, xa, xg, xl⟩, xy⟩ : Wtr)) 141 :: fz xc :: fz xa :: own iec 1 s ss :: L) w) (hpre : WrOk (⟨⟨cv xc, xa.xs, xg.toNat, xl⟩, xy⟩ : WV)) : Calls Tryz.prog 128 #[.pointer (some ⟨k, 0, none⟩), s.val] w fun e w' => ∃ zz : Cp × Sl Int × UInt64 × Int, e = .returned (.int .i64 ((writeF (⟨⟨cv xc, xa.xs, xg.toNat, xl⟩, xy⟩ : WV) ss).2)) ∧ ((⟨⟨cv zz.1, zz.2.1.xs, zz.2.2.1.toNat, zz.2.2.2⟩, xy⟩ : WV) = (writeF (⟨⟨cv xc, xa.xs, xg.toNat, xl⟩, xy⟩ : WV) ss).1) ∧ Mem w0 (blk k (wtcells (⟨⟨zz.1, zz.2.1, zz.2.2.1, zz.2.2.2⟩, xy⟩ : Wtr)) 141 :: fz zz.1 :: fz zz.2.1 :: L) w' := by
 have hwx := hpre
 have hk : chipOk (cv xc) = true := hwx.chip
 have hgn : xg.toNat < 281474976710656 := hwx.gen
 have hg1 := u64_succ hgn
 have h4b : 4 ≤ (cv xc).blocks.length := hwx.len'
 have hlr : xl = 0 ∨ xl = 1 := hwx.last
 have hrv : rvv (⟨xg + 1, ⟨s, ss⟩⟩ : Rts) = ⟨xg.toNat + 1, ss⟩ := by simp only [rvv, hg1]
 refine calls_in (args := [_, _]) Tryz.func128 rfl Tryz.ntmps128 rfl hw ?_
 change Cw _ _ _ _ _ [(0, .pointer (some ⟨k, 0, none⟩)), (1, s.val)] (blk k (wtcells (⟨⟨xc, xa, xg, xl⟩, xy⟩ : Wtr)) 141 :: fz xc :: fz xa :: own iec 1 s ss :: L)
 refine cw_seq ?_
 refine cw_region ?_
 refine sq_r (ry_assign rfl) ?_
 refine sq_nil ?_
 refine ex_then ?_
 refine cw_seq ?_
 refine cw_region ?_
 refine sq_r (ry_move rfl) ?_
 refine sq_r (ry_nilp rfl) ?_
 refine sq_r (ry_field (o' := 0) rfl rfl) ?_
 refine sq_r (ry_field (o' := 7) rfl rfl) ?_
 refine sq_r (Ry.to (v' := .int .u64 (xg.toNat : Nat)) (ry_cellc rfl) rfl) ?_
 refine sq_r (Ry.to (v' := .int .u64 ((xg + 1).toNat : Int)) (ry_addn (p := xg.toNat) (q := 1) rfl rfl rfl rfl (by simp only [nb]; omega)) (by rw [hg1])) ?_
 refine sq_r (ry_assign rfl) ?_
 refine sq_nil ?_
 refine ex_then ?_
 refine cw_seq ?_
 refine cw_region ?_
 refine sq_r (ry_move rfl) ?_
 refine sq_r (ry_move rfl) ?_
 refine sq_r (ry_build (v := .agg (rtcells (⟨xg + 1, ⟨s, ss⟩⟩ : Rts))) rfl (rts_build (xg + 1) s ss)) ?_
 refine sq_r (ry_move rfl) ?_
 refine sq_r (ry_nilp rfl) ?_
 refine sq_r (ry_field (o' := 0) rfl rfl) ?_
 refine sq_r (ry_field (o' := 0) rfl rfl) ?_
 refine sq_r (ry_field (o' := 1) rfl rfl) ?_
 refine sq_r (Ry.to (v' := .int .i64 xc.size) (ry_cellc rfl) rfl) ?_
 refine sq_callC rfl trivial fun x26 hp26 => ?_
 refine sq_r (ry_move rfl) ?_
 refine sq_r (ry_extract (v := x26.val) rfl rfl) ?_
 refine sq_r (ry_extract (v := .int .i64 ((rputF (rvv (⟨xg + 1, ⟨s, ss⟩⟩ : Rts)) xc.size).2)) rfl rfl) ?_
 refine sq_r (ry_assign rfl) ?_
 refine sq_r (ry_assign rfl) ?_
 refine sq_nil ?_
 refine ex_then ?_
 refine cw_seq ?_
 refine cw_seq ?_
 refine cw_region ?_
 refine sq_r (ry_move rfl) ?_
 refine sq_r (ry_int rfl rfl rfl) ?_
 refine sq_nil ?_
 refine ex_then ?_
 refine cw_cond rfl (fun h0 => ?_) (fun h0 => ?_)
 ·
  try simp only [Z0, Z1, Z2, Z3, Z4, Z5, Z6, Z7, Z8, Z9] at h0
  have hE : (writeF (⟨⟨cv xc, xa.xs, xg.toNat, xl⟩, xy⟩ : WV) ss) = ((⟨⟨cv xc, xa.xs, xg.toNat, xl⟩, xy⟩ : WV), (rputF (rvv (⟨xg + 1, ⟨s, ss⟩⟩ : Rts)) xc.size).2) := by rw [writeF, if_pos (show (rputF ⟨xg.toNat + 1, ss⟩ (cv xc).size).2 ≠ 0 by rw [← hrv]; exact h0), hrv]; rfl
  refine cw_seq ?_
  refine cw_region ?_
  refine sq_r (ry_move rfl) ?_
  refine sq_r (ry_assign rfl) ?_
  refine sq_nil ?_
  refine ex_then ?_
  refine cw_ret ?_
  refine ex_pass_ret ?_
  refine ex_ret (.inl rfl) (res_1 rfl (rv_tmp rfl)) (fun w1 hw => ?_)
  exact ⟨(xc, xa, xg, xl), by rw [hE], by rw [hE], Keep.mem hw⟩
 ·
  try simp only [Z0, Z1, Z2, Z3, Z4, Z5, Z6, Z7, Z8, Z9] at h0
  refine cw_skip ?_
  refine ex_then ?_
  refine cw_block ?_
  refine cw_loop (X := Nat × Cp) (fun zz => [(0, .pointer (some ⟨k, 0, none⟩)), (1, s.val), (5, .int .u64 ((xg + 1).toNat : Nat)), (6, x26.val)]) (fun zz => blk k (wtcells (⟨⟨zz.2, xa, xg, xl⟩, xy⟩ : Wtr)) 141 :: fz zz.2 :: fz xa :: own iec 1 s ss :: own benc 1 x26 (rputF (rvv (⟨xg + 1, ⟨s, ss⟩⟩ : Rts)) xc.size).1 :: L) (fun zz => (writeF (⟨⟨cv xc, xa.xs, xg.toNat, xl⟩, xy⟩ : WV) ss) = writeTo zz.1 ((⟨⟨cv xc, xa.xs, xg.toNat, xl⟩, xy⟩ : WV).on (cv zz.2)) ss (rputF (rvv (⟨xg + 1, ⟨s, ss⟩⟩ : Rts)) xc.size).1 ∧ chipOk (cv zz.2) = true ∧ Like (cv xc) (cv zz.2) ∧ (ctop - (cv zz.2).ops).toNat < zz.1) (fun zz => zz.1) ((ctop - (cv xc).ops).toNat + 1, xc) ⟨by rw [writeF, if_neg (show ¬ (rputF ⟨xg.toNat + 1, ss⟩ (cv xc).size).2 ≠ 0 by rw [← hrv]; exact fun h => h h0), hrv]; rfl, hk, .rfl' _, by simp only; omega⟩ (Sub.cons rfl (Sub.cons rfl (Sub.cons rfl (Sub.cons rfl (Sub.nil _))))) (fun w hw => Keep.mem hw) ?_
  rintro ⟨m, d⟩ ⟨hi1, hi2, hi3, hi4⟩
  dsimp only
  simp only at hi1 hi2 hi3 hi4
  obtain ⟨n, rfl⟩ : ∃ n, m = n + 1 := ⟨m - 1, by omega⟩
  refine cw_block ?_
  refine cw_seq ?_
  refine cw_region ?_
  refine sq_r (ry_move rfl) ?_
  refine sq_callC rfl ⟨hi2, by rw [hi3.len]; omega, hlr⟩ fun x34 hp34 => ?_
  obtain ⟨r1, r2, r3, r4⟩ := rootBlk_ok (c := cv d) (last := xl) hi2 hlr
  rw [← hp34] at r1 r2 r3 r4
  have r7 := hi3.trans r2
  have hl7 := r7.len
  have hl3 := hi3.len
  have hdl := ops_le r1
  refine sq_r (ry_move rfl) ?_
  refine sq_r (ry_extract (v := .int .i64 ((rootBlkF (cv d) xl).2.1)) rfl rfl) ?_
  refine sq_r (ry_extract (v := .int .i64 ((rootBlkF (cv d) xl).2.2)) rfl rfl) ?_
  refine sq_r (ry_assign rfl) ?_
  refine sq_r (ry_assign rfl) ?_
  refine sq_nil ?_
  refine ex_then ?_
  refine cw_seq ?_
  refine cw_seq ?_
  refine cw_region ?_
  refine sq_r (ry_move rfl) ?_
  refine sq_r (ry_int rfl rfl rfl) ?_
  refine sq_nil ?_
  refine ex_then ?_
  refine cw_cond rfl (fun h1 => ?_) (fun h1 => ?_)
  ·
   try simp only [Z0, Z1, Z2, Z3, Z4, Z5, Z6, Z7, Z8, Z9] at h1
   have hE : (writeF (⟨⟨cv xc, xa.xs, xg.toNat, xl⟩, xy⟩ : WV) ss) = ((⟨⟨cv xc, xa.xs, xg.toNat, xl⟩, xy⟩ : WV).on (cv x34), (rootBlkF (cv d) xl).2.2) := by
    rw [hi1, writeTo]
    refine (if_pos h1).trans ?_
    rw [hp34]; rfl
   refine cw_seq ?_
   refine cw_region ?_
   refine sq_r (ry_move rfl) ?_
   refine sq_r (ry_assign rfl) ?_
   refine sq_nil ?_
   refine ex_then ?_
   refine cw_ret ?_
   refine ex_pass_ret ?_
   refine ex_block_ret ?_
   refine ex_pass_ret ?_
   refine ex_block_ret ?_
   refine ex_ret (.inl rfl) (res_1 rfl (rv_tmp rfl)) (fun w1 hw => ?_)
   exact ⟨(x34, xa, xg, xl), by rw [hE], by rw [hE]; rfl, Keep.mem hw⟩
  ·
   try simp only [Z0, Z1, Z2, Z3, Z4, Z5, Z6, Z7, Z8, Z9] at h1
   have h1d : (rootBlkF (cv d) xl).2.2 = 0 := h1
   obtain ⟨r5, r6⟩ := r4 h1d
   have hst : (writeF (⟨⟨cv xc, xa.xs, xg.toNat, xl⟩, xy⟩ : WV) ss) = (if (progWE (cv x34) (rootBlkF (cv d) xl).2.1 (rputF (rvv (⟨xg + 1, ⟨s, ss⟩⟩ : Rts)) xc.size).1) = 0 then ((⟨⟨(progW (cv x34) (rootBlkF (cv d) xl).2.1 (rputF (rvv (⟨xg + 1, ⟨s, ss⟩⟩ : Rts)) xc.size).1), ss, xg.toNat + 1, if greatF (progW (cv x34) (rootBlkF (cv d) xl).2.1 (rputF (rvv (⟨xg + 1, ⟨s, ss⟩⟩ : Rts)) xc.size).1) 1 = xg.toNat + 1 then 1 else (rootBlkF (cv d) xl).2.1⟩, xy⟩ : WV), (0 : Int)) else if (progWE (cv x34) (rootBlkF (cv d) xl).2.1 (rputF (rvv (⟨xg + 1, ⟨s, ss⟩⟩ : Rts)) xc.size).1) ≠ 9 then ((⟨⟨cv xc, xa.xs, xg.toNat, xl⟩, xy⟩ : WV).on (progW (cv x34) (rootBlkF (cv d) xl).2.1 (rputF (rvv (⟨xg + 1, ⟨s, ss⟩⟩ : Rts)) xc.size).1), (progWE (cv x34) (rootBlkF (cv d) xl).2.1 (rputF (rvv (⟨xg + 1, ⟨s, ss⟩⟩ : Rts)) xc.size).1)) else writeTo n ((⟨⟨cv xc, xa.xs, xg.toNat, xl⟩, xy⟩ : WV).on (progW (cv x34) (rootBlkF (cv d) xl).2.1 (rputF (rvv (⟨xg + 1, ⟨s, ss⟩⟩ : Rts)) xc.size).1)) ss (rputF (rvv (⟨xg + 1, ⟨s, ss⟩⟩ : Rts)) xc.size).1) := by
    rw [hi1, writeTo]
    refine (if_neg (fun h => h h1d)).trans ?_
    rw [hp34]; rfl
   refine cw_skip ?_
   refine ex_then ?_
   refine cw_seq ?_
   refine cw_region ?_
   refine sq_r (ry_move rfl) ?_
   refine sq_r (ry_move rfl) ?_
   refine sq_r (ry_move rfl) ?_
   refine sq_callC rfl ⟨r1, by omega, by omega⟩ fun x43 hp43 => ?_
   refine sq_r (ry_assign rfl) ?_
   refine sq_nil ?_
   refine ex_then ?_
   refine cw_seq ?_
   refine cw_seq ?_
   refine cw_region ?_
   refine sq_r (ry_move rfl) ?_
   refine sq_r (ry_int rfl rfl rfl) ?_
   refine sq_nil ?_
   refine ex_then ?_
   refine cw_cond rfl (fun h2 => ?_) (fun h2 => ?_)
   ·
    try simp only [Z0, Z1, Z2, Z3, Z4, Z5, Z6, Z7, Z8, Z9] at h2
    have h2d : (progWE (cv x34) (rootBlkF (cv d) xl).2.1 (rputF (rvv (⟨xg + 1, ⟨s, ss⟩⟩ : Rts)) xc.size).1) = 0 := h2
    rw [if_pos h2d] at hst
    refine cw_seq ?_
    refine cw_seq ?_
    refine cw_region ?_
    refine sq_r (ry_move rfl) ?_
    refine sq_y (yl_callC rfl ⟨by rw [hp43]; exact progW_ok r1 _ _, by omega, by rw [hp43, (progW_like _ _ _).len]; omega⟩) ?_
    refine sq_r (ry_move rfl) ?_
    refine sq_r (ry_int rfl rfl rfl) ?_
    refine sq_nil ?_
    refine ex_then ?_
    refine cw_cond rfl (fun h3 => ?_) (fun h3 => ?_)
    ·
     try simp only [Z0, Z1, Z2, Z3, Z4, Z5, Z6, Z7, Z8, Z9] at h3
     have hE := hst
     rw [if_pos (show greatF (progW (cv x34) (rootBlkF (cv d) xl).2.1 (rputF (rvv (⟨xg + 1, ⟨s, ss⟩⟩ : Rts)) xc.size).1) 1 = xg.toNat + 1 by rw [← hp43]; omega)] at hE
     refine cw_region ?_
     refine sq_r (ry_assign rfl) ?_
     refine sq_nil ?_
     refine ex_then ?_
     refine cw_seq ?_
     refine cw_region ?_
     refine sq_r (ry_move rfl) ?_
     refine sq_r (ry_move rfl) ?_
     refine sq_r (ry_move rfl) ?_
     refine sq_r (ry_move rfl) ?_
     refine sq_r (ry_move rfl) ?_
     refine sq_r (ry_move rfl) ?_
     refine sq_r (ry_nilp rfl) ?_
     refine sq_r (ry_field (o' := 0) rfl rfl) ?_
     refine sq_r (ry_field (o' := 6) rfl rfl) ?_
     refine sq_store (cs' := wtcells (⟨⟨x43, ⟨s, ss⟩, xg, xl⟩, xy⟩ : Wtr)) rfl rfl (by show 6 < 10; decide) (by first | rfl | exact Sv.one _) rfl ?_
     refine sq_r (ry_nilp rfl) ?_
     refine sq_r (ry_field (o' := 0) rfl rfl) ?_
     refine sq_r (ry_field (o' := 7) rfl rfl) ?_
     refine sq_store (cs' := wtcells (⟨⟨x43, ⟨s, ss⟩, (xg + 1), xl⟩, xy⟩ : Wtr)) rfl rfl (by show 7 < 10; decide) (by first | rfl | exact Sv.one _) rfl ?_
     refine sq_r (ry_nilp rfl) ?_
     refine sq_r (ry_field (o' := 0) rfl rfl) ?_
     refine sq_r (ry_field (o' := 8) rfl rfl) ?_
     refine sq_store (cs' := wtcells (⟨⟨x43, ⟨s, ss⟩, (xg + 1), 1⟩, xy⟩ : Wtr)) rfl rfl (by show 8 < 10; decide) (by first | rfl | exact Sv.one _) rfl ?_
     refine sq_nil ?_
     refine ex_then ?_
     refine cw_seq ?_
     refine cw_region ?_
     refine sq_r (ry_assign rfl) ?_
     refine sq_nil ?_
     refine ex_then ?_
     refine cw_ret ?_
     refine ex_pass_ret ?_
     refine ex_block_ret ?_
     refine ex_pass_ret ?_
     refine ex_block_ret ?_
     refine ex_ret (.inl rfl) (res_1 rfl (rv_tmp rfl)) (fun w1 hw => ?_)
     exact ⟨(x43, ⟨s, ss⟩, xg + 1, 1), by rw [hE], by rw [hE, hp43, hg1], Keep.mem (frzI (a := ⟨s, ss⟩) (Keep.mem hw : Mem w0 (own iec 1 s ss :: blk k (wtcells (⟨⟨x43, ⟨s, ss⟩, xg + 1, 1⟩, xy⟩ : Wtr)) 141 :: fz x43 :: L) _))⟩
    ·
     try simp only [Z0, Z1, Z2, Z3, Z4, Z5, Z6, Z7, Z8, Z9] at h3
     have hE := hst
     rw [if_neg (show ¬ greatF (progW (cv x34) (rootBlkF (cv d) xl).2.1 (rputF (rvv (⟨xg + 1, ⟨s, ss⟩⟩ : Rts)) xc.size).1) 1 = xg.toNat + 1 by rw [← hp43]; omega)] at hE
     refine cw_skip ?_
     refine ex_then ?_
     refine cw_seq ?_
     refine cw_region ?_
     refine sq_r (ry_move rfl) ?_
     refine sq_r (ry_move rfl) ?_
     refine sq_r (ry_move rfl) ?_
     refine sq_r (ry_move rfl) ?_
     refine sq_r (ry_move rfl) ?_
     refine sq_r (ry_move rfl) ?_
     refine sq_r (ry_nilp rfl) ?_
     refine sq_r (ry_field (o' := 0) rfl rfl) ?_
     refine sq_r (ry_field (o' := 6) rfl rfl) ?_
     refine sq_store (cs' := wtcells (⟨⟨x43, ⟨s, ss⟩, xg, xl⟩, xy⟩ : Wtr)) rfl rfl (by show 6 < 10; decide) (by first | rfl | exact Sv.one _) rfl ?_
     refine sq_r (ry_nilp rfl) ?_
     refine sq_r (ry_field (o' := 0) rfl rfl) ?_
     refine sq_r (ry_field (o' := 7) rfl rfl) ?_
     refine sq_store (cs' := wtcells (⟨⟨x43, ⟨s, ss⟩, (xg + 1), xl⟩, xy⟩ : Wtr)) rfl rfl (by show 7 < 10; decide) (by first | rfl | exact Sv.one _) rfl ?_
     refine sq_r (ry_nilp rfl) ?_
     refine sq_r (ry_field (o' := 0) rfl rfl) ?_
     refine sq_r (ry_field (o' := 8) rfl rfl) ?_
     refine sq_store (cs' := wtcells (⟨⟨x43, ⟨s, ss⟩, (xg + 1), (rootBlkF (cv d) xl).2.1⟩, xy⟩ : Wtr)) rfl rfl (by show 8 < 10; decide) (by first | rfl | exact Sv.one _) rfl ?_
     refine sq_nil ?_
     refine ex_then ?_
     refine cw_seq ?_
     refine cw_region ?_
     refine sq_r (ry_assign rfl) ?_
     refine sq_nil ?_
     refine ex_then ?_
     refine cw_ret ?_
     refine ex_pass_ret ?_
     refine ex_block_ret ?_
     refine ex_pass_ret ?_
     refine ex_block_ret ?_
     refine ex_ret (.inl rfl) (res_1 rfl (rv_tmp rfl)) (fun w1 hw => ?_)
     exact ⟨(x43, ⟨s, ss⟩, xg + 1, (rootBlkF (cv d) xl).2.1), by rw [hE], by rw [hE, hp43, hg1], Keep.mem (frzI (a := ⟨s, ss⟩) (Keep.mem hw : Mem w0 (own iec 1 s ss :: blk k (wtcells (⟨⟨x43, ⟨s, ss⟩, xg + 1, (rootBlkF (cv d) xl).2.1⟩, xy⟩ : Wtr)) 141 :: fz x43 :: L) _))⟩
   ·
    try simp only [Z0, Z1, Z2, Z3, Z4, Z5, Z6, Z7, Z8, Z9] at h2
    have h2d : ¬ (progWE (cv x34) (rootBlkF (cv d) xl).2.1 (rputF (rvv (⟨xg + 1, ⟨s, ss⟩⟩ : Rts)) xc.size).1) = 0 := h2
    refine cw_skip ?_
    refine ex_then ?_
    refine cw_seq ?_
    refine cw_region ?_
    refine sq_r (ry_move rfl) ?_
    refine sq_r (ry_int rfl rfl rfl) ?_
    refine sq_nil ?_
    refine ex_then ?_
    refine cw_cond rfl (fun h4 => ?_) (fun h4 => ?_)
    ·
     try simp only [Z0, Z1, Z2, Z3, Z4, Z5, Z6, Z7, Z8, Z9] at h4
     have hE := hst
     rw [if_neg h2d, if_pos (show (progWE (cv x34) (rootBlkF (cv d) xl).2.1 (rputF (rvv (⟨xg + 1, ⟨s, ss⟩⟩ : Rts)) xc.size).1) ≠ 9 from h4)] at hE
     refine cw_seq ?_
     refine cw_region ?_
     refine sq_r (ry_move rfl) ?_
     refine sq_r (ry_assign rfl) ?_
     refine sq_nil ?_
     refine ex_then ?_
     refine cw_ret ?_
     refine ex_block_ret ?_
     refine ex_pass_ret ?_
     refine ex_block_ret ?_
     refine ex_ret (.inl rfl) (res_1 rfl (rv_tmp rfl)) (fun w1 hw => ?_)
     exact ⟨(x43, xa, xg, xl), by rw [hE], by rw [hE, hp43]; rfl, Keep.mem hw⟩
    ·
     try simp only [Z0, Z1, Z2, Z3, Z4, Z5, Z6, Z7, Z8, Z9] at h4
     refine cw_skip ?_
     refine ex_block ?_
     have h4d : (progWE (cv x34) (rootBlkF (cv d) xl).2.1 (rputF (rvv (⟨xg + 1, ⟨s, ss⟩⟩ : Rts)) xc.size).1) = 9 := h4
     have hq9 := ops_progW r6 (p := (rputF (rvv (⟨xg + 1, ⟨s, ss⟩⟩ : Rts)) xc.size).1) (.inl h4d)
     have hle9 := ops_le (progW_ok r1 (rootBlkF (cv d) xl).2.1 (rputF (rvv (⟨xg + 1, ⟨s, ss⟩⟩ : Rts)) xc.size).1)
     rw [hq9] at hle9
     exact ex_again (x := (n + 1, d)) (n, x43) ⟨by rw [hst, if_neg h2d, if_neg (fun h => h h4d), hp43], by rw [hp43]; exact progW_ok r1 _ _, by rw [hp43]; exact r7.trans (progW_like _ _ _), by rw [hp43, hq9]; omega⟩ (by simp only; omega) (Sub.cons rfl (Sub.cons rfl (Sub.cons rfl (Sub.cons rfl (Sub.nil _))))) (fun w hw => Keep.mem hw)
instance wwrite_i {w0 : World} {L R1 R2 R3 L2 : List Ent} {i0 i1 i2 i3 : Nat} {k : Nat} {xc : Cp} {xa : Sl Int} {xg : UInt64} {xl : Int} {xy : Bool} {s : Sv} {ss : List Int}  [q0 : Has L k (wtcells (⟨⟨xc, xa, xg, xl⟩, xy⟩ : Wtr)) 141 i0] [d0 : DelI L i0 R1] [q1 : At R1 (fz xc) i1] [d1 : DelI R1 i1 R2] [q2 : At R2 (fz xa) i2] [d2 : DelI R2 i2 R3] [q3 : Owns R3 s iec 1 ss i3] [d3 : DelI R3 i3 L2]  : FnC Tryz.prog 128 w0 L [.pointer (some ⟨k, 0, none⟩), s.val] (Cp × Sl Int × UInt64 × Int) (fun zz => .int .i64 ((writeF (⟨⟨cv xc, xa.xs, xg.toNat, xl⟩, xy⟩ : WV) ss).2)) (fun zz => blk k (wtcells (⟨⟨zz.1, zz.2.1, zz.2.2.1, zz.2.2.2⟩, xy⟩ : Wtr)) 141 :: fz zz.1 :: fz zz.2.1 :: L2) (fun zz => (⟨⟨cv zz.1, zz.2.1.xs, zz.2.2.1.toNat, zz.2.2.2⟩, xy⟩ : WV) = (writeF (⟨⟨cv xc, xa.xs, xg.toNat, xl⟩, xy⟩ : WV) ss).1) (WrOk (⟨⟨cv xc, xa.xs, xg.toNat, xl⟩, xy⟩ : WV)) := ⟨fun hp w hw => wwrite_c w0 w L2 k xc xa xg xl xy s ss  (mem_four q0.h d0.h q1.h d1.h q2.h d2.h q3.h d3.h hw) hp⟩

end Go.Proofs.YtaipiecplldinaaGreat

/- A writer: pages moved. -/
namespace Go.Proofs.YtaipiecplldinaaGreat
open Go.Eng Go.Kb
open Go.RowKit
theorem mpg_build (i : Int) (g : UInt64) (s : Sv) (xs : List UInt8) (w : World) : (Instr.build 110 #[(0, .int .i64 1), (1, .int .i64 i), (2, .int .u64 (g.toNat : Int)), (3, s.val)]).run Tryz.prog w = .ok (.agg (pgcells ⟨1, i, g, ⟨s, xs⟩⟩)) w := by
 obtain ⟨e, b, o, l, c, p⟩ := s
 unfold pgcells
 cases e <;> kernel_rfl
theorem wmove_c (w0 w : World) (L : List Ent) (k : Nat) (xc : Cp) (xa : Sl Int) (xg : UInt64) (xl : Int) (xy : Bool) (f : Int) (t : Int)  (hw : Mem w0 (blk k (wtcells (⟨⟨xc, xa, xg, xl⟩, xy⟩ : Wtr)) 141 :: fz xc :: fz xa :: L) w) (hpre : WrOk (⟨⟨cv xc, xa.xs, xg.toNat, xl⟩, xy⟩ : WV) ∧ 2 ≤ f ∧ f < (cv xc).blocks.length ∧ (0 ≤ t → 2 ≤ t ∧ t < (cv xc).blocks.length)) : Calls Tryz.prog 183 #[.pointer (some ⟨k, 0, none⟩), .int .i64 f, .int .i64 t] w fun e w' => ∃ zz : Cp × Sl Int × UInt64 × Int, e = .returned (.tuple #[.bool ((moveF (⟨⟨cv xc, xa.xs, xg.toNat, xl⟩, xy⟩ : WV) f t).2.1), .int .i64 ((moveF (⟨⟨cv xc, xa.xs, xg.toNat, xl⟩, xy⟩ : WV) f t).2.2)]) ∧ ((⟨⟨cv zz.1, zz.2.1.xs, zz.2.2.1.toNat, zz.2.2.2⟩, xy⟩ : WV) = (moveF (⟨⟨cv xc, xa.xs, xg.toNat, xl⟩, xy⟩ : WV) f t).1) ∧ Mem w0 (blk k (wtcells (⟨⟨zz.1, zz.2.1, zz.2.2.1, zz.2.2.2⟩, xy⟩ : Wtr)) 141 :: fz zz.1 :: fz zz.2.1 :: L) w' := by
 obtain ⟨hwx, hf0, hf1, ht0⟩ := hpre
 have hk : chipOk (cv xc) = true := hwx.chip
 have h4b : 4 ≤ (cv xc).blocks.length := hwx.len'
 have hd := chip_dims hk
 have hgn : xg.toNat < 281474976710656 := hwx.gen
 have hg1 := u64_succ hgn
 have hal : xa.xs.length ≤ 64 := hwx.few
 have hnm : NmOk (cv xc) xa.xs := hwx.nums
 have hpg0 : 1 ≤ xc.pages ∧ xc.pages ≤ 16 := ⟨hd.2.2.1, hd.2.2.2.1⟩
 refine calls_in (args := [_, _, _]) Tryz.func183 rfl Tryz.ntmps183 rfl hw ?_
 change Cw _ _ _ _ _ [(0, .pointer (some ⟨k, 0, none⟩)), (1, .int .i64 f), (2, .int .i64 t)] (blk k (wtcells (⟨⟨xc, xa, xg, xl⟩, xy⟩ : Wtr)) 141 :: fz xc :: fz xa :: L)
 refine cw_seq ?_
 refine cw_region ?_
 refine sq_r (ry_assign rfl) ?_
 refine sq_r (ry_assign rfl) ?_
 refine sq_nil ?_
 refine ex_then ?_
 refine cw_seq ?_
 refine cw_region ?_
 refine sq_r (ry_move rfl) ?_
 refine sq_r (ry_nilp rfl) ?_
 refine sq_r (ry_field (o' := 0) rfl rfl) ?_
 refine sq_r (ry_field (o' := 0) rfl rfl) ?_
 refine sq_r (ry_field (o' := 0) rfl rfl) ?_
 refine sq_r (Ry.to (v' := .int .i64 xc.pages) (ry_cellc rfl) rfl) ?_
 refine sq_r (ry_assign rfl) ?_
 refine sq_nil ?_
 refine ex_then ?_
 refine cw_seq ?_
 refine cw_region ?_
 refine sq_r (ry_move rfl) ?_
 refine sq_r (ry_nilp rfl) ?_
 refine sq_r (ry_field (o' := 0) rfl rfl) ?_
 refine sq_r (ry_field (o' := 6) rfl rfl) ?_
 refine sq_r (Ry.to (v' := xa.sv.val) (ry_cellc rfl) rfl) ?_
 refine sq_callC rfl (by omega) fun x32 hp32 => ?_
 refine sq_r (ry_assign rfl) ?_
 refine sq_nil ?_
 refine ex_then ?_
 refine cw_seq ?_
 refine cw_seq ?_
 refine cw_region ?_
 refine sq_r (ry_move rfl) ?_
 refine sq_r (ry_nilp rfl) ?_
 refine sq_r (ry_field (o' := 0) rfl rfl) ?_
 refine sq_r (ry_field (o' := 6) rfl rfl) ?_
 refine sq_r (Ry.to (v' := xa.sv.val) (ry_cellc rfl) rfl) ?_
 refine sq_r (ry_lenH rfl) ?_
 refine sq_r (ry_move rfl) ?_
 refine sq_nil ?_
 refine ex_then ?_
 refine cw_block ?_
 refine cw_loop (X := Nat × Cp × List Int) (fun zz => [(39, .int .i64 (zz.1 : Nat)), (0, .pointer (some ⟨k, 0, none⟩)), (9, x32.val), (1, .int .i64 f), (2, .int .i64 t), (8, .int .i64 xc.pages), (37, xa.sv.val), (38, .int .i64 (xa.xs.length : Nat))]) (fun zz => blk k (wtcells (⟨⟨zz.2.1, xa, xg, xl⟩, xy⟩ : Wtr)) 141 :: fz zz.2.1 :: fz xa :: own iec 1 x32 zz.2.2 :: L) (fun zz => zz.1 ≤ xa.xs.length ∧ (moveTo (⟨cv xc, xa.xs, xg.toNat, xl⟩ : VV) f t xa.xs 0 (cv xc) xa.xs) = (moveTo (⟨cv xc, xa.xs, xg.toNat, xl⟩ : VV) f t (xa.xs.drop zz.1) zz.1 (cv zz.2.1) zz.2.2) ∧ chipOk (cv zz.2.1) = true ∧ Like (cv xc) (cv zz.2.1) ∧ zz.2.2.length = xa.xs.length ∧ NmOk (cv xc) zz.2.2) (fun zz => xa.xs.length - zz.1) (0, xc, xa.xs) ⟨Nat.zero_le _, rfl, hk, .rfl' _, rfl, hnm⟩ (Sub.cons rfl (Sub.cons rfl (Sub.cons rfl (Sub.cons rfl (Sub.cons rfl (Sub.cons rfl (Sub.cons rfl (Sub.cons rfl (Sub.nil _))))))))) (fun w hw => Keep.mem hw) ?_
 rintro ⟨i, d, zs⟩ ⟨hi1, hi2, hi3, hi4, hi5, hi6⟩
 dsimp only
 simp only at hi1 hi2 hi3 hi4 hi5 hi6
 have hl4 := hi4.len
 have hpd : d.pages = xc.pages := hi4.pages
 have hbd : (cv d).blocks.length = d.blocks.xs.length := bvs_length _
 refine cw_seq ?_
 refine cw_region ?_
 refine sq_r (ry_int rfl rfl rfl) ?_
 refine sq_nil ?_
 refine ex_then ?_
 refine cw_seq ?_
 refine cw_cond rfl (fun h0 => ?_) (fun h0 => ?_)
 ·
  try simp only [Z0, Z1, Z2, Z3, Z4, Z5, Z6, Z7, Z8, Z9] at h0
  obtain ⟨n, hn2⟩ := get_some (xs := xa.xs) (i := i) (by omega)
  obtain ⟨zi, hzi⟩ := get_some (xs := zs) (i := i) (by omega)
  have hnm2 := hnm n (List.mem_of_getElem? hn2)
  have hnn : 0 ≤ n := by rcases hnm2 with h | h <;> omega
  have hnp : n ≤ 512 := by
   rcases hnm2 with h | h
   ·
    omega
   ·
    exact num_le hpg0.1 hpg0.2 hd.2.1 h.2.2
  have hst : (moveTo (⟨cv xc, xa.xs, xg.toNat, xl⟩ : VV) f t (xa.xs.drop i) i (cv d) zs) = (if n = 0 ∨ (n - 1) / xc.pages ≠ f then (moveTo (⟨cv xc, xa.xs, xg.toNat, xl⟩ : VV) f t (xa.xs.drop (i + 1)) (i + 1) (cv d) zs) else if (mvBlk (cv d) xa.xs zs f t).2 = false then (⟨cv d, zs, some 6⟩ : MV) else if (mvPg (cv d) ((xg.toNat : Int) + 1) i n).2 ≠ 0 then ⟨cv d, zs, some (mvPg (cv d) ((xg.toNat : Int) + 1) i n).2⟩ else if (progWE (cv d) (mvBlk (cv d) xa.xs zs f t).1 (mvPg (cv d) ((xg.toNat : Int) + 1) i n).1) ≠ 0 then ⟨(progW (cv d) (mvBlk (cv d) xa.xs zs f t).1 (mvPg (cv d) ((xg.toNat : Int) + 1) i n).1), zs, some (settF (progWE (cv d) (mvBlk (cv d) xa.xs zs f t).1 (mvPg (cv d) ((xg.toNat : Int) + 1) i n).1))⟩ else (moveTo (⟨cv xc, xa.xs, xg.toNat, xl⟩ : VV) f t (xa.xs.drop (i + 1)) (i + 1) (progW (cv d) (mvBlk (cv d) xa.xs zs f t).1 (mvPg (cv d) ((xg.toNat : Int) + 1) i n).1) (zs.set i ((mvBlk (cv d) xa.xs zs f t).1 * xc.pages + (blkAt (cv d) (mvBlk (cv d) xa.xs zs f t).1).used + 1)))) := by
   rw [drop_at hn2, moveTo]; rfl
  refine cw_skip ?_
  refine ex_then ?_
  refine cw_seq ?_
  refine cw_block ?_
  refine cw_seq ?_
  refine cw_region ?_
  refine sq_r (ry_move rfl) ?_
  refine sq_r (ry_idxH rfl rfl i rfl (by omega)) ?_
  refine sq_r (ry_elemcH (j := 0) rfl i hn2 rfl (by decide)) ?_
  refine sq_r (ry_assign rfl) ?_
  refine sq_r (ry_assign rfl) ?_
  refine sq_nil ?_
  refine ex_then ?_
  refine cw_seq ?_
  refine cw_seq ?_
  refine cw_region ?_
  refine sq_r (ry_move rfl) ?_
  refine sq_r (ry_int rfl rfl rfl) ?_
  refine sq_r (ry_move rfl) ?_
  refine sq_gf rfl rfl rfl (fun hg => (Ry.yl (ry_move rfl))) ?_
  refine sq_gf rfl rfl rfl (fun hg => (Ry.yl (ry_sub (ev_c hg rfl) rfl (by simp only [Z0, Z1, Z2, Z3, Z4, Z5, Z6, Z7, Z8, Z9] at hg; omega)))) ?_
  refine sq_gf rfl rfl rfl (fun hg => (Ry.yl (ry_move rfl))) ?_
  refine sq_gf rfl rfl rfl (fun hg => (Ry.yl (ry_quo (ev_c hg rfl) (ev_c hg rfl) (by simp only [Z0, Z1, Z2, Z3, Z4, Z5, Z6, Z7, Z8, Z9] at hg; omega) (by simp only [Z0, Z1, Z2, Z3, Z4, Z5, Z6, Z7, Z8, Z9] at hg; omega)))) ?_
  refine sq_gf rfl rfl rfl (fun hg => (Ry.yl (ry_move rfl))) ?_
  refine sq_gf rfl rfl rfl (fun hg => (Ry.yl (ry_int (ev_c hg rfl) (ev_c hg rfl) rfl))) ?_
  refine sq_r (ry_or rfl rfl rfl) ?_
  refine sq_nil ?_
  refine ex_then ?_
  refine cw_cond rfl (fun h1 => ?_) (fun h1 => ?_)
  ·
   try simp only [Z0, Z1, Z2, Z3, Z4, Z5, Z6, Z7, Z8, Z9] at h1
   refine cw_exit ?_
   refine ex_pass_exit ?_
   refine ex_block_hit ?_
   refine ex_then ?_
   refine cw_region ?_
   refine sq_r (ry_add rfl rfl (by omega)) ?_
   refine sq_r (ry_move rfl) ?_
   refine sq_nil ?_
   exact ex_again (x := (i, d, zs)) (i + 1, d, zs) ⟨by simp only; omega, by rw [hi2, hst, if_pos h1], hi3, hi4, hi5, hi6⟩ (by simp only; omega) (Sub.cons rfl (Sub.cons rfl (Sub.cons rfl (Sub.cons rfl (Sub.cons rfl (Sub.cons rfl (Sub.cons rfl (Sub.cons rfl (Sub.nil _))))))))) (fun w hw => Keep.mem hw)
  ·
   try simp only [Z0, Z1, Z2, Z3, Z4, Z5, Z6, Z7, Z8, Z9] at h1
   have h1d : ¬ (n = 0 ∨ (n - 1) / xc.pages ≠ f) := fun g => g.elim h1.1 (fun g => g h1.2)
   have hnr : 1 ≤ n ∧ n ≤ 1000000 ∧ 2 ≤ (n - 1) / d.pages ∧ (n - 1) / d.pages < ((cv d).blocks.length : Int) := by
    rw [hpd, hl4]
    rcases hnm2 with h | h
    ·
     exact absurd (.inl h) h1d
    ·
     exact ⟨h.1, by omega, h.2.1, h.2.2⟩
   refine cw_skip ?_
   refine ex_then ?_
   refine cw_seq ?_
   refine cw_region ?_
   refine sq_r (ry_move rfl) ?_
   refine sq_r (ry_assign rfl) ?_
   refine sq_nil ?_
   refine ex_then ?_
   refine cw_cut (X := Unit) (fun zz => [(12, .int .i64 ((mvBlk (cv d) xa.xs zs f t).1)), (0, .pointer (some ⟨k, 0, none⟩)), (1, .int .i64 f), (2, .int .i64 t), (8, .int .i64 xc.pages), (9, x32.val), (10, .int .i64 (i : Nat)), (37, xa.sv.val), (38, .int .i64 (xa.xs.length : Nat)), (39, .int .i64 (i : Nat))]) (fun zz => blk k (wtcells (⟨⟨d, xa, xg, xl⟩, xy⟩ : Wtr)) 141 :: fz d :: fz xa :: own iec 1 x32 zs :: L) (fun zz => (mvBlk (cv d) xa.xs zs f t).2 = true ∧ 2 ≤ (mvBlk (cv d) xa.xs zs f t).1 ∧ (mvBlk (cv d) xa.xs zs f t).1 < (cv d).blocks.length) ?_ ?_
   ·
    refine cw_seq ?_
    refine cw_region ?_
    refine sq_r (ry_move rfl) ?_
    refine sq_r (ry_int rfl rfl rfl) ?_
    refine sq_nil ?_
    refine ex_then ?_
    refine cw_cond rfl (fun h2 => ?_) (fun h2 => ?_)
    ·
     try simp only [Z0, Z1, Z2, Z3, Z4, Z5, Z6, Z7, Z8, Z9] at h2
     refine cw_seq ?_
     have hfl : flatI [xa, (⟨x32, zs⟩ : Sl Int)] = xa.xs ++ zs := flatI_two _ _
     have hbn := blksF_len (cv d) (flatI [xa, (⟨x32, zs⟩ : Sl Int)])
     obtain ⟨q, hq⟩ := get_some (xs := (blksF (cv d) (flatI [xa, (⟨x32, zs⟩ : Sl Int)]))) (i := (f - 2).toNat) (by rw [blksF_len]; omega)
     have hkn : KnOk (cv d) (flatI [xa, (⟨x32, zs⟩ : Sl Int)]) := by
      rw [flatI_two]
      exact ((hnm.like hi4).append (hi6.like hi4)).kn hi3 (by omega) (by rw [List.length_append]; omega)
     refine cw_region ?_
     refine sq_r (ry_move rfl) ?_
     refine sq_r (ry_move rfl) ?_
     refine sq_r (ry_nilp rfl) ?_
     refine sq_r (ry_field (o' := 0) rfl rfl) ?_
     refine sq_r (ry_field (o' := 6) rfl rfl) ?_
     refine sq_r (Ry.to (v' := xa.sv.val) (ry_cellc rfl) rfl) ?_
     refine sq_r (ry_move rfl) ?_
     refine sq_buildSlice (enc := scells) (vals := [xa.sv.val, x32.val]) [xa, (⟨x32, zs⟩ : Sl Int)] rfl (by simp only [List.map_cons, List.map_nil, Sv.cells_val]; rfl) rfl (by decide) (by decide) fun b64 => ?_
     refine sq_callC (hc := wblocks_i (l := (⟨⟨false, b64, 0, 2, 2, none⟩, [xa, ⟨x32, zs⟩]⟩ : Sl (Sl Int)))) rfl hkn fun x65 hp65 => ?_
     refine sq_r (ry_assign rfl) ?_
     refine sq_nil ?_
     refine ex_then ?_
     refine cw_seq ?_
     refine cw_region ?_
     refine sq_r (ry_move rfl) ?_
     refine sq_r (ry_move rfl) ?_
     refine sq_r (ry_sub rfl rfl (by omega)) ?_
     refine sq_r (ry_build (v := .agg (weacells badWea)) rfl bad_build) ?_
     refine sq_r (ry_idxH rfl rfl ((f - 2).toNat) (by omega) (show (f - 2).toNat < (blksF (cv d) (flatI [xa, (⟨x32, zs⟩ : Sl Int)])).length by omega)) ?_
     refine sq_storeS (s := x65) (n := 4) (k := (f - 2).toNat) (j := 0) (a := q) (a' := badWea) (xs := (blksF (cv d) (flatI [xa, (⟨x32, zs⟩ : Sl Int)]))) (enc := weacells) (c := 4) (v := .agg (weacells badWea)) (by kernel_rfl) rfl rfl rfl hq (Enc.one (enc := weacells) (c := 4) _) rfl (by decide) (by rfl) ?_
     refine sq_nil ?_
     refine ex_then ?_
     refine cw_seq ?_
     refine cw_region ?_
     refine sq_r (ry_move rfl) ?_
     refine sq_r (ry_move rfl) ?_
     refine sq_y (yl_callC rfl trivial) ?_
     refine sq_r (ry_move rfl) ?_
     refine sq_r (ry_extract (v := .int .i64 ((frontW ((blksF (cv d) (flatI [xa, (⟨x32, zs⟩ : Sl Int)])).set (f - 2).toNat badWea) xc.pages).1)) rfl rfl) ?_
     refine sq_r (ry_extract (v := .bool ((frontW ((blksF (cv d) (flatI [xa, (⟨x32, zs⟩ : Sl Int)])).set (f - 2).toNat badWea) xc.pages).2)) rfl rfl) ?_
     refine sq_r (ry_assign rfl) ?_
     refine sq_r (ry_assign rfl) ?_
     refine sq_nil ?_
     refine ex_then ?_
     refine cw_seq ?_
     refine cw_seq ?_
     refine cw_region ?_
     refine sq_r (ry_move rfl) ?_
     refine sq_r (ry_not rfl) ?_
     refine sq_nil ?_
     refine ex_then ?_
     refine cw_cond rfl (fun h3 => ?_) (fun h3 => ?_)
     ·
      try simp only [Z0, Z1, Z2, Z3, Z4, Z5, Z6, Z7, Z8, Z9] at h3
      have hB0 : (mvBlk (cv d) xa.xs zs f t).2 = false := by rw [mvBlk, if_pos h2, ← hfl, if_neg]; rw [show (cv d).pages = xc.pages from hpd, h3]; simp
      have hE := moveF_some (x := (⟨⟨cv xc, xa.xs, xg.toNat, xl⟩, xy⟩ : WV)) (src := f) (to := t) (show moveTo _ _ _ _ _ _ _ = _ from (hi2.trans (hst.trans ((if_neg h1d).trans (if_pos hB0)))))
      refine cw_seq ?_
      refine cw_region ?_
      refine sq_r (ry_assign rfl) ?_
      refine sq_r (ry_assign rfl) ?_
      refine sq_nil ?_
      refine ex_then ?_
      refine cw_ret ?_
      refine ex_pass_ret ?_
      refine ex_pass_ret ?_
      refine ex_block_ret ?_
      refine ex_pass_ret ?_
      refine ex_pass_ret ?_
      refine ex_block_ret ?_
      refine ex_pass_ret ?_
      refine ex_ret (.inl rfl) (res_2 rfl (rv_tmp rfl) (rv_tmp rfl)) (fun w1 hw => ?_)
      exact ⟨(d, xa, xg, xl), by rw [hE], by rw [hE]; rfl, Keep.mem hw⟩
     ·
      try simp only [Z0, Z1, Z2, Z3, Z4, Z5, Z6, Z7, Z8, Z9] at h3
      have hfr := firstF_ok (show (firstF _ _ _ _).2 = true from h3)
      have hBt : (mvBlk (cv d) xa.xs zs f t) = ((frontW ((blksF (cv d) (flatI [xa, (⟨x32, zs⟩ : Sl Int)])).set (f - 2).toNat badWea) xc.pages).1 + 2, true) := by rw [mvBlk, if_pos h2, ← hfl, show (cv d).pages = xc.pages from hpd, if_pos h3]
      have hfr1 : 0 ≤ (frontW ((blksF (cv d) (flatI [xa, (⟨x32, zs⟩ : Sl Int)])).set (f - 2).toNat badWea) xc.pages).1 := hfr.2.1
      have hfr2 : (frontW ((blksF (cv d) (flatI [xa, (⟨x32, zs⟩ : Sl Int)])).set (f - 2).toNat badWea) xc.pages).1 < (((blksF (cv d) (flatI [xa, (⟨x32, zs⟩ : Sl Int)])).set (f - 2).toNat badWea).length : Int) := hfr.2.2.1
      rw [List.length_set, blksF_len] at hfr2
      refine cw_skip ?_
      refine ex_then ?_
      refine cw_region ?_
      refine sq_r (ry_move rfl) ?_
      refine sq_r (ry_add rfl rfl (by omega)) ?_
      refine sq_r (ry_assign rfl) ?_
      refine sq_nil ?_
      exact ex_meet () ⟨by rw [hBt], by rw [hBt]; simp only; omega, by rw [hBt]; simp only; omega⟩ (Sub.cons (look_eq rfl (by rw [hBt])) (Sub.cons rfl (Sub.cons rfl (Sub.cons rfl (Sub.cons rfl (Sub.cons rfl (Sub.cons rfl (Sub.cons rfl (Sub.cons rfl (Sub.cons rfl (Sub.nil _))))))))))) (fun w hw => Keep.mem hw)
    ·
     try simp only [Z0, Z1, Z2, Z3, Z4, Z5, Z6, Z7, Z8, Z9] at h2
     refine cw_skip ?_
     exact ex_meet () ⟨by rw [mvBlk, if_neg h2], by rw [mvBlk, if_neg h2]; exact (ht0 (by first | omega | (simp only []; omega))).1, by rw [mvBlk, if_neg h2, hl4]; exact (ht0 (by first | omega | (simp only []; omega))).2⟩ (Sub.cons (look_eq rfl (by rw [mvBlk, if_neg h2])) (Sub.cons rfl (Sub.cons rfl (Sub.cons rfl (Sub.cons rfl (Sub.cons rfl (Sub.cons rfl (Sub.cons rfl (Sub.cons rfl (Sub.cons rfl (Sub.nil _))))))))))) (fun w hw => Keep.mem hw)
   ·
    rintro ⟨⟩ ⟨hc1, hc2, hc3⟩
    obtain ⟨B, hB⟩ := get_some (xs := d.blocks.xs) (i := (mvBlk (cv d) xa.xs zs f t).1.toNat) (by omega)
    have mbB : Mb B d.blocks := ⟨List.mem_of_getElem? hB⟩
    have hBv := blk_of hB
    have hBu : (blkAt (cv d) (mvBlk (cv d) xa.xs zs f t).1).used = B.used := by rw [hBv]; rfl
    have hBo := bkOk_iff.1 (blkAt_okN hi3 (b := (mvBlk (cv d) xa.xs zs f t).1) (by omega) (by omega))
    rw [hBu, show (cv d).pages = xc.pages from hpd] at hBo
    have hm0 : 0 ≤ (mvBlk (cv d) xa.xs zs f t).1 * xc.pages := Int.mul_nonneg (by omega) (by omega)
    have hm1 : (mvBlk (cv d) xa.xs zs f t).1 * xc.pages ≤ 32 * 16 := Int.mul_le_mul (by omega) (by omega) (by omega) (by omega)
    refine cw_seq ?_
    refine cw_linE [12, 14, 15, 2014, 4012] [[], [], [], [], [], [], [], [], [], [], [], [], [], [12], [], [12, 14]] [0, 1, 2, 3, 4, 5, 6, 7, 8, 9, 10, 11, 12, 13, 14, 15] [blk k (wtcells (⟨⟨d, xa, xg, xl⟩, xy⟩ : Wtr)) 141, fz d, fz xa] [(14, alM Tryz.prog 110)] (by kernel_rfl) (fun _ hw => Keep.mem hw) (by kernel_rfl) (by kernel_rfl) ?_
    refine ln_r rfl (ry_move rfl) ?_
    refine ln_r rfl (ry_move rfl) ?_
    refine ln_r rfl (ry_nilp rfl) ?_
    refine ln_r rfl (ry_field (o' := 0) rfl rfl) ?_
    refine ln_r rfl (ry_field (o' := 7) rfl rfl) ?_
    refine ln_r rfl (Ry.to (v' := .int .u64 (xg.toNat : Nat)) (ry_cellc rfl) rfl) ?_
    refine ln_r rfl (Ry.to (v' := .int .u64 ((xg + 1).toNat : Int)) (ry_addn (p := xg.toNat) (q := 1) rfl rfl rfl rfl (by simp only [nb]; omega)) (by rw [hg1])) ?_
    refine ln_r rfl (ry_move rfl) ?_
    refine ln_r rfl (ry_nilp rfl) ?_
    refine ln_r rfl (ry_field (o' := 0) rfl rfl) ?_
    refine ln_r rfl (Ry.to (v' := .agg (vlcells (⟨d, xa, xg, xl⟩ : Vol))) (ry_part rfl) rfl) ?_
    refine ln_r rfl (ry_move rfl) ?_
    refine ln_callF (hc := fbody_i (v := (⟨d, xa, xg, xl⟩ : Vol)) (id := ((i : Nat) : Int))) (hcF := fun e_ => fbody_i (v := (⟨d, xa, xg, xl⟩ : Vol)) (id := ((i : Nat) : Int))) rfl rfl ⟨hi3, n, by rw [Int.toNat_natCast]; exact hn2, by omega, hnr.1, hnr.2.1, hnr.2.2.1, hnr.2.2.2⟩ (fun e x w hw => Keep.mem hw) (Cert.one (i := 14) rfl rfl rfl makes_al (Cert.none rfl)) fun x93 hp93 => ⟨fun _ hw => Keep.mem hw, ?_⟩
    refine ln_r rfl (ry_build (v := .agg (pgcells (⟨1, ((i : Nat) : Int), xg + 1, ⟨x93, (bodyF (cv d) (xa.xs.getD ((i : Nat) : Int).toNat 0))⟩⟩ : Pge))) rfl (mpg_build ((i : Nat) : Int) (xg + 1) x93 _)) ?_
    refine ln_mk (m := alM Tryz.prog 110) rfl rfl makes_al (Cert.none rfl) fun b16 => ?_
    change Ln _ _ _ _ _ _ _ _ (putE _ _ (.pointer (some ⟨b16, 0, none⟩))) (blk b16 (pgcells zPge) 110 :: _) _
    refine ln_st rfl (st_storeW rfl rfl ⟨fun _ hw => Keep.mem hw, ?_⟩)
    refine ln_nil ?_
    refine ex_then ?_
    refine cw_seq ?_
    have hpp : (putF (pvv (⟨1, ((i : Nat) : Int), xg + 1, ⟨x93, (bodyF (cv d) (xa.xs.getD ((i : Nat) : Int).toNat 0))⟩⟩ : Pge)) d.size) = (mvPg (cv d) ((xg.toNat : Int) + 1) i n) := by
     have e1 : xa.xs.getD ((i : Nat) : Int).toNat 0 = n := by rw [Int.toNat_natCast]; exact getD_of hn2
     rw [mvPg, e1]
     simp only [pvv, hg1]
     congr 2
    refine cw_lin [7] [[], [], [], [], [], [], [], [], [7], [7], [7], [7], [7]] [0, 1, 2, 3, 4, 5, 6, 7, 8, 9, 10, 11, 12] [blk k (wtcells (⟨⟨d, xa, xg, xl⟩, xy⟩ : Wtr)) 141, fz d, blk b16 (pgcells (⟨1, ((i : Nat) : Int), xg + 1, ⟨x93, (bodyF (cv d) (xa.xs.getD ((i : Nat) : Int).toNat 0))⟩⟩ : Pge)) 110] (fun _ hw => Keep.mem hw) (by kernel_rfl) (by kernel_rfl) ?_
    refine ln_r rfl (ry_whole rfl) ?_
    refine ln_r rfl (ry_move rfl) ?_
    refine ln_r rfl (ry_nilp rfl) ?_
    refine ln_r rfl (ry_field (o' := 0) rfl rfl) ?_
    refine ln_r rfl (ry_field (o' := 0) rfl rfl) ?_
    refine ln_r rfl (ry_field (o' := 1) rfl rfl) ?_
    refine ln_r rfl (Ry.to (v' := .int .i64 d.size) (ry_cellc rfl) rfl) ?_
    refine ln_st rfl (st_callC rfl trivial fun x103 hp103 => ⟨fun _ hw => Keep.mem hw, ?_⟩)
    refine ln_r rfl (ry_move rfl) ?_
    refine ln_r rfl (ry_extract (v := x103.val) rfl rfl) ?_
    refine ln_r rfl (ry_extract (v := .int .i64 ((putF (pvv (⟨1, ((i : Nat) : Int), xg + 1, ⟨x93, (bodyF (cv d) (xa.xs.getD ((i : Nat) : Int).toNat 0))⟩⟩ : Pge)) d.size).2)) rfl rfl) ?_
    refine ln_r rfl (ry_assign rfl) ?_
    refine ln_r rfl (ry_assign rfl) ?_
    refine ln_nil ?_
    refine ex_then ?_
    refine cw_seq ?_
    refine cw_seq ?_
    refine cw_region ?_
    refine sq_r (ry_move rfl) ?_
    refine sq_r (ry_int rfl rfl rfl) ?_
    refine sq_nil ?_
    refine ex_then ?_
    refine cw_cond rfl (fun h4 => ?_) (fun h4 => ?_)
    ·
     try simp only [Z0, Z1, Z2, Z3, Z4, Z5, Z6, Z7, Z8, Z9] at h4
     have h4d : (mvPg (cv d) ((xg.toNat : Int) + 1) i n).2 ≠ 0 := by rw [← hpp]; exact h4
     have hE := moveF_some (x := (⟨⟨cv xc, xa.xs, xg.toNat, xl⟩, xy⟩ : WV)) (src := f) (to := t) (show moveTo _ _ _ _ _ _ _ = _ from (hi2.trans (hst.trans ((if_neg h1d).trans ((if_neg (by rw [hc1]; simp)).trans (if_pos h4d))))))
     refine cw_seq ?_
     refine cw_region ?_
     refine sq_r (ry_move rfl) ?_
     refine sq_r (ry_assign rfl) ?_
     refine sq_r (ry_assign rfl) ?_
     refine sq_nil ?_
     refine ex_then ?_
     refine cw_ret ?_
     refine ex_pass_ret ?_
     refine ex_block_ret ?_
     refine ex_pass_ret ?_
     refine ex_pass_ret ?_
     refine ex_block_ret ?_
     refine ex_pass_ret ?_
     refine ex_ret (.inl rfl) (res_2 rfl (rv_tmp rfl) (rv_tmp rfl)) (fun w1 hw => ?_)
     exact ⟨(d, xa, xg, xl), by rw [hE, hpp], by rw [hE]; rfl, Keep.mem hw⟩
    ·
     try simp only [Z0, Z1, Z2, Z3, Z4, Z5, Z6, Z7, Z8, Z9] at h4
     have h4d : (mvPg (cv d) ((xg.toNat : Int) + 1) i n).2 = 0 := by rw [← hpp]; exact h4
     refine cw_skip ?_
     refine ex_then ?_
     refine cw_seq ?_
     refine cw_region ?_
     refine sq_r (ry_move rfl) ?_
     refine sq_r (ry_nilp rfl) ?_
     refine sq_r (ry_field (o' := 0) rfl rfl) ?_
     refine sq_r (ry_field (o' := 0) rfl rfl) ?_
     refine sq_r (ry_field (o' := 2) rfl rfl) ?_
     refine sq_r (Ry.to (v' := d.blocks.sv.val) (ry_cellc rfl) rfl) ?_
     refine sq_r (ry_move rfl) ?_
     refine sq_r (ry_idxH rfl rfl ((mvBlk (cv d) xa.xs zs f t).1.toNat) (by omega) (by omega)) ?_
     refine sq_r (ry_field rfl rfl) ?_
     refine sq_r (ry_elemcH (j := 1) rfl ((mvBlk (cv d) xa.xs zs f t).1.toNat) hB rfl (by decide)) ?_
     refine sq_r (ry_assign rfl) ?_
     refine sq_nil ?_
     refine ex_then ?_
     refine cw_seq ?_
     refine cw_seq ?_
     refine cw_region ?_
     refine sq_r (ry_move rfl) ?_
     refine sq_r (ry_move rfl) ?_
     refine sq_r (ry_move rfl) ?_
     refine sq_callC rfl ⟨hi3, by omega, by omega⟩ fun x122 hp122 => ?_
     rw [hpp] at hp122
     refine sq_r (ry_assign rfl) ?_
     refine sq_nil ?_
     refine ex_then ?_
     refine cw_seq ?_
     refine cw_region ?_
     refine sq_r (ry_move rfl) ?_
     refine sq_r (ry_int rfl rfl rfl) ?_
     refine sq_nil ?_
     refine ex_then ?_
     refine cw_cond rfl (fun h5 => ?_) (fun h5 => ?_)
     ·
      try simp only [Z0, Z1, Z2, Z3, Z4, Z5, Z6, Z7, Z8, Z9] at h5
      have h5d : (progWE (cv d) (mvBlk (cv d) xa.xs zs f t).1 (mvPg (cv d) ((xg.toNat : Int) + 1) i n).1) ≠ 0 := by rw [← hpp]; exact h5
      have hE := moveF_some (x := (⟨⟨cv xc, xa.xs, xg.toNat, xl⟩, xy⟩ : WV)) (src := f) (to := t) (show moveTo _ _ _ _ _ _ _ = _ from (hi2.trans (hst.trans ((if_neg h1d).trans ((if_neg (by rw [hc1]; simp)).trans ((if_neg (fun h => h h4d)).trans (if_pos h5d)))))))
      refine cw_seq ?_
      refine cw_region ?_
      refine sq_r (ry_move rfl) ?_
      refine sq_y (yl_callC rfl trivial) ?_
      refine sq_r (ry_assign rfl) ?_
      refine sq_r (ry_assign rfl) ?_
      refine sq_nil ?_
      refine ex_then ?_
      refine cw_ret ?_
      refine ex_pass_ret ?_
      refine ex_block_ret ?_
      refine ex_pass_ret ?_
      refine ex_pass_ret ?_
      refine ex_block_ret ?_
      refine ex_pass_ret ?_
      refine ex_ret (.inl rfl) (res_2 rfl (rv_tmp rfl) (rv_tmp rfl)) (fun w1 hw => ?_)
      exact ⟨(x122, xa, xg, xl), by rw [hE, hpp], by rw [hE, hp122]; rfl, Keep.mem hw⟩
     ·
      try simp only [Z0, Z1, Z2, Z3, Z4, Z5, Z6, Z7, Z8, Z9] at h5
      have h5d : (progWE (cv d) (mvBlk (cv d) xa.xs zs f t).1 (mvPg (cv d) ((xg.toNat : Int) + 1) i n).1) = 0 := by rw [← hpp]; exact h5
      have hpo := progOk_iff.1 (progWE_zero h5d).1
      rw [hBu, show (cv d).pages = xc.pages from hpd] at hpo
      have hnew : ((mvBlk (cv d) xa.xs zs f t).1 * xc.pages + B.used + 1) = 0 ∨ (1 ≤ ((mvBlk (cv d) xa.xs zs f t).1 * xc.pages + B.used + 1) ∧ 2 ≤ (((mvBlk (cv d) xa.xs zs f t).1 * xc.pages + B.used + 1) - 1) / (cv xc).pages ∧ (((mvBlk (cv d) xa.xs zs f t).1 * xc.pages + B.used + 1) - 1) / (cv xc).pages < ((cv xc).blocks.length : Int)) := by
       have hq : (((mvBlk (cv d) xa.xs zs f t).1 * xc.pages + B.used + 1) - 1) / xc.pages = (mvBlk (cv d) xa.xs zs f t).1 := by
        rw [Int.add_sub_cancel, Int.add_comm, Int.add_mul_ediv_right _ _ (by omega), Int.ediv_eq_zero_of_lt hpo.2.1 hpo.2.2.1, Int.zero_add]
       exact .inr ⟨by omega, by rw [show (cv xc).pages = xc.pages from rfl, hq]; exact hc2, by rw [show (cv xc).pages = xc.pages from rfl, hq]; omega⟩
      refine cw_skip ?_
      refine ex_then ?_
      refine cw_region ?_
      refine sq_r (ry_move rfl) ?_
      refine sq_r (ry_move rfl) ?_
      refine sq_r (ry_move rfl) ?_
      refine sq_r (ry_move rfl) ?_
      refine sq_r (ry_mul rfl rfl (by omega)) ?_
      refine sq_r (ry_move rfl) ?_
      refine sq_r (ry_add rfl rfl (by omega)) ?_
      refine sq_r (ry_add rfl rfl (by omega)) ?_
      refine sq_r (ry_idxH rfl rfl i rfl (by omega)) ?_
      refine sq_storeS (s := x32) (n := 1) (k := i) (j := 0) (a := zi) (a' := ((mvBlk (cv d) xa.xs zs f t).1 * xc.pages + B.used + 1)) (xs := zs) (enc := iec) (c := 1) (v := .int .i64 ((mvBlk (cv d) xa.xs zs f t).1 * xc.pages + B.used + 1)) (by kernel_rfl) rfl rfl rfl hzi (by simp [Value.cells, Value.oneCell']) rfl (by decide) (by rfl) ?_
      refine sq_nil ?_
      refine ex_block ?_
      refine ex_then ?_
      refine cw_region ?_
      refine sq_r (ry_add rfl rfl (by omega)) ?_
      refine sq_r (ry_move rfl) ?_
      refine sq_nil ?_
      exact ex_again (x := (i, d, zs)) (i + 1, x122, zs.set i ((mvBlk (cv d) xa.xs zs f t).1 * xc.pages + B.used + 1)) ⟨by simp only; omega, by rw [hi2, hst, if_neg h1d, if_neg (by rw [hc1]; simp), if_neg (fun h => h h4d), if_neg (fun h => h h5d), hp122, hBu], by rw [hp122]; exact progW_ok hi3 _ _, by rw [hp122]; exact hi4.trans (progW_like _ _ _), by rw [List.length_set]; exact hi5, fun y hy => (List.mem_or_eq_of_mem_set hy).elim (hi6 y) fun hy => hy ▸ hnew⟩ (by simp only; omega) (Sub.cons rfl (Sub.cons rfl (Sub.cons rfl (Sub.cons rfl (Sub.cons rfl (Sub.cons rfl (Sub.cons rfl (Sub.cons rfl (Sub.nil _))))))))) (fun w hw => Keep.mem hw)
 ·
  try simp only [Z0, Z1, Z2, Z3, Z4, Z5, Z6, Z7, Z8, Z9] at h0
  obtain rfl : i = xa.xs.length := by omega
  have hE0 : (moveTo (⟨cv xc, xa.xs, xg.toNat, xl⟩ : VV) f t xa.xs 0 (cv xc) xa.xs) = ⟨cv d, zs, none⟩ := by rw [hi2, List.drop_length]; rfl
  have hE := moveF_none (x := (⟨⟨cv xc, xa.xs, xg.toNat, xl⟩, xy⟩ : WV)) (src := f) (to := t) hE0
  have hww : WrOk (⟨⟨cv d, xa.xs, xg.toNat, xl⟩, xy⟩ : WV) := hwx.on hi3 hi4
  refine cw_exit ?_
  refine ex_pass_exit ?_
  refine ex_pass_exit ?_
  refine ex_block_hit ?_
  refine ex_then ?_
  refine cw_seq ?_
  refine cw_region ?_
  refine sq_r (ry_move rfl) ?_
  refine sq_r (ry_move rfl) ?_
  refine sq_callC rfl hww fun x139 hp139 => ?_
  refine sq_r (ry_assign rfl) ?_
  refine sq_nil ?_
  refine ex_then ?_
  refine cw_seq ?_
  refine cw_region ?_
  refine sq_r (ry_move rfl) ?_
  refine sq_r (ry_int rfl rfl rfl) ?_
  refine sq_r (ry_move rfl) ?_
  refine sq_r (ry_assign rfl) ?_
  refine sq_r (ry_assign rfl) ?_
  refine sq_nil ?_
  refine ex_then ?_
  refine cw_ret ?_
  refine ex_ret (.inl rfl) (res_2 rfl (rv_tmp rfl) (rv_tmp rfl)) (fun w1 hw => ?_)
  exact ⟨(x139.1, x139.2.1, x139.2.2.1, x139.2.2.2), by rw [hE]; rfl, by rw [hE]; exact hp139, Keep.mem hw⟩
instance wmove_i {w0 : World} {L R1 R2 L2 : List Ent} {i0 i1 i2 : Nat} {k : Nat} {xc : Cp} {xa : Sl Int} {xg : UInt64} {xl : Int} {xy : Bool} {f : Int} {t : Int} [q0 : Has L k (wtcells (⟨⟨xc, xa, xg, xl⟩, xy⟩ : Wtr)) 141 i0] [d0 : DelI L i0 R1] [q1 : At R1 (fz xc) i1] [d1 : DelI R1 i1 R2] [q2 : At R2 (fz xa) i2] [d2 : DelI R2 i2 L2]  : FnC Tryz.prog 183 w0 L [.pointer (some ⟨k, 0, none⟩), .int .i64 f, .int .i64 t] (Cp × Sl Int × UInt64 × Int) (fun zz => .tuple #[.bool ((moveF (⟨⟨cv xc, xa.xs, xg.toNat, xl⟩, xy⟩ : WV) f t).2.1), .int .i64 ((moveF (⟨⟨cv xc, xa.xs, xg.toNat, xl⟩, xy⟩ : WV) f t).2.2)]) (fun zz => blk k (wtcells (⟨⟨zz.1, zz.2.1, zz.2.2.1, zz.2.2.2⟩, xy⟩ : Wtr)) 141 :: fz zz.1 :: fz zz.2.1 :: L2) (fun zz => (⟨⟨cv zz.1, zz.2.1.xs, zz.2.2.1.toNat, zz.2.2.2⟩, xy⟩ : WV) = (moveF (⟨⟨cv xc, xa.xs, xg.toNat, xl⟩, xy⟩ : WV) f t).1) (WrOk (⟨⟨cv xc, xa.xs, xg.toNat, xl⟩, xy⟩ : WV) ∧ 2 ≤ f ∧ f < (cv xc).blocks.length ∧ (0 ≤ t → 2 ≤ t ∧ t < (cv xc).blocks.length)) := ⟨fun hp w hw => wmove_c w0 w L2 k xc xa xg xl xy f t (mem_three q0.h d0.h q1.h d1.h q2.h d2.h hw) hp⟩

end Go.Proofs.YtaipiecplldinaaGreat

/- A writer: which block is relieved, and of what. -/
namespace Go.Proofs.YtaipiecplldinaaGreat
open Go.Eng Go.Kb
open Go.RowKit
theorem wvic_c (w : World) (xb : Nat) (xc : Cp) (xa : Sl Int) (xg : UInt64) (xl : Int) (xy : Bool) (l : Sv) (ls : List Wea) (hxb : w.heap[xb]? = Option.some (.cells (wtcells (⟨⟨xc, xa, xg, xl⟩, xy⟩ : Wtr)) 141 (0, 0))) (hx0 : Deep.good (hp w) xc) (hl : Lies weacells 4 (hp w) l ls) (hpre : ls.length ≤ 1000000 ∧ ∀ x ∈ ls, 0 ≤ x.live ∧ x.live ≤ 1000000 ∧ 0 ≤ x.used ∧ x.used ≤ 1000000) : Calls Tryz.prog 166 #[.pointer (some ⟨xb, 0, none⟩), l.val] w fun e w' => e = .returned (.tuple #[.int .i64 ((vicF ls xc.pages).1), .bool ((vicF ls xc.pages).2)]) ∧ Mem w [] w' := by
 have ghxb : OldB w xb (wtcells (⟨⟨xc, xa, xg, xl⟩, xy⟩ : Wtr)) 141 := ⟨hxb⟩
 have ghx0 : GvD w xc := ⟨hx0⟩
 have ghl : Gv w l weacells 4 ls := ⟨hl⟩
 obtain ⟨hp1, hp2⟩ := hpre
 have hct : ctop = 1099511627776 := rfl
 refine calls_of (args := [_, _]) Tryz.func166 rfl Tryz.ntmps166 rfl ?_
 change Cw _ _ _ _ _ [(0, .pointer (some ⟨xb, 0, none⟩)), (1, l.val)] []
 refine cw_seq ?_
 refine cw_region ?_
 refine sq_r (ry_assign rfl) ?_
 refine sq_r (ry_assign rfl) ?_
 refine sq_nil ?_
 refine ex_then ?_
 refine cw_seq ?_
 refine cw_seq ?_
 refine cw_region ?_
 refine sq_r (ry_move rfl) ?_
 refine sq_r (ry_move rfl) ?_
 refine sq_r (ry_nilp rfl) ?_
 refine sq_r (ry_field (o' := 0) rfl rfl) ?_
 refine sq_r (ry_field (o' := 0) rfl rfl) ?_
 refine sq_r (ry_field (o' := 0) rfl rfl) ?_
 refine sq_r (Ry.to (v' := .int .i64 xc.pages) (ry_cellP rfl) rfl) ?_
 refine sq_y (yl_callC rfl trivial) ?_
 refine sq_r (ry_move rfl) ?_
 refine sq_r (ry_extract (v := .int .i64 ((victimW ls xc.pages).1)) rfl rfl) ?_
 refine sq_r (ry_extract (v := .bool ((victimW ls xc.pages).2)) rfl rfl) ?_
 refine sq_r (ry_assign rfl) ?_
 refine sq_r (ry_assign rfl) ?_
 refine sq_nil ?_
 refine ex_then ?_
 refine cw_seq ?_
 refine cw_region ?_
 refine sq_r (ry_move rfl) ?_
 refine sq_nil ?_
 refine ex_then ?_
 refine cw_cond rfl (fun h0 => ?_) (fun h0 => ?_)
 ·
  try simp only [Z0, Z1, Z2, Z3, Z4, Z5, Z6, Z7, Z8, Z9] at h0
  have hE : vicF ls xc.pages = ((victimW ls xc.pages).1, true) := by rw [vicF, if_pos h0]
  refine cw_seq ?_
  refine cw_region ?_
  refine sq_r (ry_move rfl) ?_
  refine sq_r (ry_assign rfl) ?_
  refine sq_r (ry_assign rfl) ?_
  refine sq_nil ?_
  refine ex_then ?_
  refine cw_ret ?_
  refine ex_pass_ret ?_
  refine ex_ret (.inl rfl) (res_2 rfl (rv_tmp rfl) (rv_tmp rfl)) (fun w1 hw => ?_)
  exact ⟨by rw [hE], Keep.mem hw⟩
 ·
  try simp only [Z0, Z1, Z2, Z3, Z4, Z5, Z6, Z7, Z8, Z9] at h0
  have hE : vicF ls xc.pages = ((vicTo ls ls.length).1, decide (0 < (vicTo ls ls.length).2)) := by rw [vicF, if_neg (by rw [h0]; simp)]
  refine cw_skip ?_
  refine ex_then ?_
  refine cw_seq ?_
  refine cw_region ?_
  refine sq_r (ry_assign rfl) ?_
  refine sq_r (ry_assign rfl) ?_
  refine sq_nil ?_
  refine ex_then ?_
  refine cw_seq ?_
  refine cw_seq ?_
  refine cw_region ?_
  refine sq_r (ry_move rfl) ?_
  refine sq_r (ry_lenH rfl) ?_
  refine sq_r (ry_move rfl) ?_
  refine sq_nil ?_
  refine ex_then ?_
  refine cw_block ?_
  refine cw_loop (X := Nat) (fun zz => [(28, .int .i64 (zz : Nat)), (8, .int .i64 ((vicTo ls zz).1)), (9, .int .i64 ((vicTo ls zz).2)), (26, l.val), (27, .int .i64 (ls.length : Nat))]) (fun zz => []) (fun zz => zz ≤ ls.length) (fun zz => ls.length - zz) 0 (Nat.zero_le _) (Sub.cons rfl (Sub.cons rfl (Sub.cons rfl (Sub.cons rfl (Sub.cons rfl (Sub.nil _)))))) (fun w hw => Keep.mem hw) ?_
  rintro i hi1
  refine cw_seq ?_
  refine cw_region ?_
  refine sq_r (ry_int rfl rfl rfl) ?_
  refine sq_nil ?_
  refine ex_then ?_
  refine cw_seq ?_
  refine cw_cond rfl (fun h1 => ?_) (fun h1 => ?_)
  ·
   try simp only [Z0, Z1, Z2, Z3, Z4, Z5, Z6, Z7, Z8, Z9] at h1
   obtain ⟨z, hz⟩ := get_some (xs := ls) (i := i) (by omega)
   have hgz : ls.getD i zWea = z := by simp [List.getD, hz]
   have hzb := hp2 z (List.mem_of_getElem? hz)
   have hvl := vicTo_le ls i
   have hsn : (vicTo ls (i + 1)) = vicStep (vicTo ls i) i z := by rw [vicTo, hgz]
   refine cw_skip ?_
   refine ex_then ?_
   refine cw_seq ?_
   refine cw_block ?_
   refine cw_seq ?_
   refine cw_region ?_
   refine sq_r (ry_move rfl) ?_
   refine sq_r (ry_idxH rfl rfl i rfl (by omega)) ?_
   refine sq_r (ry_elemH rfl i hz rfl) ?_
   refine sq_allocA fun b11 => ?_
   refine sq_r (ry_assign rfl) ?_
   refine sq_storeW rfl rfl ?_
   refine sq_nil ?_
   refine ex_then ?_
   refine cw_seq ?_
   refine cw_seq ?_
   refine cw_region ?_
   refine sq_r (ry_field (o' := 3) rfl rfl) ?_
   refine sq_r (ry_cellc rfl) ?_
   refine sq_r (ry_move rfl) ?_
   refine sq_gf rfl rfl rfl (fun hg => (Ry.yl (ry_field (o' := 0) rfl rfl))) ?_
   refine sq_gf rfl rfl rfl (fun hg => (Ry.yl (ry_cellc (ev_c hg rfl)))) ?_
   refine sq_gf rfl rfl rfl (fun hg => (Ry.yl (ry_int (ev_c hg rfl) rfl rfl))) ?_
   refine sq_r (ry_or rfl rfl rfl) ?_
   refine sq_r (ry_move rfl) ?_
   refine sq_gf rfl rfl rfl (fun hg => (Ry.yl (ry_field (o' := 2) rfl rfl))) ?_
   refine sq_gf rfl rfl rfl (fun hg => (Ry.yl (ry_cellc (ev_c hg rfl)))) ?_
   refine sq_gf rfl rfl rfl (fun hg => (Ry.yl (ry_int (ev_c hg rfl) rfl rfl))) ?_
   refine sq_r (ry_or rfl rfl rfl) ?_
   refine sq_nil ?_
   refine ex_then ?_
   refine cw_cond rfl (fun h2 => ?_) (fun h2 => ?_)
   ·
    try simp only [Z0, Z1, Z2, Z3, Z4, Z5, Z6, Z7, Z8, Z9] at h2
    have hst : (vicTo ls (i + 1)) = (vicTo ls i) := by rw [hsn, vicStep, if_pos (h2.elim (fun h => h.elim (fun h => .inl h) fun h => .inr (.inl h)) fun h => .inr (.inr (by omega)))]
    refine cw_exit ?_
    refine ex_pass_exit ?_
    refine ex_block_hit ?_
    refine ex_then ?_
    refine cw_region ?_
    refine sq_r (ry_add rfl rfl (by omega)) ?_
    refine sq_r (ry_move rfl) ?_
    refine sq_nil ?_
    exact ex_again (x := (i)) (i + 1) (by first | omega | (simp only []; omega)) (by first | omega | (simp only []; omega)) (Sub.cons rfl (Sub.cons (look_eq rfl (by rw [hst])) (Sub.cons (look_eq rfl (by rw [hst])) (Sub.cons rfl (Sub.cons rfl (Sub.nil _)))))) (fun w hw => Keep.mem hw)
   ·
    try simp only [Z0, Z1, Z2, Z3, Z4, Z5, Z6, Z7, Z8, Z9] at h2
    have h2d : ¬ (z.bad = true ∨ z.live = 0 ∨ ctop ≤ z.worn) := fun g => g.elim (fun g => absurd (h2.1.1.symm.trans g) (by simp)) (fun g => g.elim h2.1.2 (fun g => h2.2 (by omega)))
    refine cw_skip ?_
    refine ex_then ?_
    refine cw_seq ?_
    refine cw_region ?_
    refine sq_r (ry_field (o' := 1) rfl rfl) ?_
    refine sq_r (ry_cellc rfl) ?_
    refine sq_r (ry_field (o' := 0) rfl rfl) ?_
    refine sq_r (ry_cellc rfl) ?_
    refine sq_r (ry_sub rfl rfl (by omega)) ?_
    refine sq_r (ry_assign rfl) ?_
    refine sq_nil ?_
    refine ex_then ?_
    refine cw_seq ?_
    refine cw_region ?_
    refine sq_r (ry_move rfl) ?_
    refine sq_r (ry_move rfl) ?_
    refine sq_r (ry_int rfl rfl rfl) ?_
    refine sq_nil ?_
    refine ex_then ?_
    refine cw_cond rfl (fun h3 => ?_) (fun h3 => ?_)
    ·
     try simp only [Z0, Z1, Z2, Z3, Z4, Z5, Z6, Z7, Z8, Z9] at h3
     have hst : (vicTo ls (i + 1)) = ((i : Int), z.used - z.live) := by rw [hsn, vicStep, if_neg h2d, if_pos h3]
     refine cw_region ?_
     refine sq_r (ry_move rfl) ?_
     refine sq_r (ry_move rfl) ?_
     refine sq_r (ry_assign rfl) ?_
     refine sq_r (ry_assign rfl) ?_
     refine sq_nil ?_
     refine ex_block ?_
     refine ex_then ?_
     refine cw_region ?_
     refine sq_r (ry_add rfl rfl (by omega)) ?_
     refine sq_r (ry_move rfl) ?_
     refine sq_nil ?_
     exact ex_again (x := (i)) (i + 1) (by first | omega | (simp only []; omega)) (by first | omega | (simp only []; omega)) (Sub.cons rfl (Sub.cons (look_eq rfl (by rw [hst])) (Sub.cons (look_eq rfl (by rw [hst])) (Sub.cons rfl (Sub.cons rfl (Sub.nil _)))))) (fun w hw => Keep.mem hw)
    ·
     try simp only [Z0, Z1, Z2, Z3, Z4, Z5, Z6, Z7, Z8, Z9] at h3
     have hst : (vicTo ls (i + 1)) = (vicTo ls i) := by rw [hsn, vicStep, if_neg h2d, if_neg h3]
     refine cw_skip ?_
     refine ex_block ?_
     refine ex_then ?_
     refine cw_region ?_
     refine sq_r (ry_add rfl rfl (by omega)) ?_
     refine sq_r (ry_move rfl) ?_
     refine sq_nil ?_
     exact ex_again (x := (i)) (i + 1) (by first | omega | (simp only []; omega)) (by first | omega | (simp only []; omega)) (Sub.cons rfl (Sub.cons (look_eq rfl (by rw [hst])) (Sub.cons (look_eq rfl (by rw [hst])) (Sub.cons rfl (Sub.cons rfl (Sub.nil _)))))) (fun w hw => Keep.mem hw)
  ·
   try simp only [Z0, Z1, Z2, Z3, Z4, Z5, Z6, Z7, Z8, Z9] at h1
   obtain rfl : i = ls.length := by omega
   refine cw_exit ?_
   refine ex_pass_exit ?_
   refine ex_pass_exit ?_
   refine ex_block_hit ?_
   refine ex_then ?_
   refine cw_seq ?_
   refine cw_region ?_
   refine sq_r (ry_move rfl) ?_
   refine sq_r (ry_move rfl) ?_
   refine sq_r (ry_int rfl rfl rfl) ?_
   refine sq_r (ry_assign rfl) ?_
   refine sq_r (ry_assign rfl) ?_
   refine sq_nil ?_
   refine ex_then ?_
   refine cw_ret ?_
   refine ex_ret (.inl rfl) (res_2 rfl (rv_tmp rfl) (rv_tmp rfl)) (fun w1 hw => ?_)
   exact ⟨by rw [hE], Keep.mem hw⟩
instance wvic_i {w0 : World} {L : List Ent} {xb : Nat} {xc : Cp} {xa : Sl Int} {xg : UInt64} {xl : Int} {xy : Bool} {l : Sv} {ls : List Wea} [hxb : Blk w0 L xb (wtcells (⟨⟨xc, xa, xg, xl⟩, xy⟩ : Wtr)) 141] [hx0 : HdD w0 L xc] [hl : HdE w0 L weacells 4 l ls] : FnQ Tryz.prog 166 w0 L [.pointer (some ⟨xb, 0, none⟩), l.val] (.tuple #[.int .i64 ((vicF ls xc.pages).1), .bool ((vicF ls xc.pages).2)]) (ls.length ≤ 1000000 ∧ ∀ x ∈ ls, 0 ≤ x.live ∧ x.live ≤ 1000000 ∧ 0 ≤ x.used ∧ x.used ≤ 1000000) := ⟨fun hp w hw => wvic_c w xb xc xa xg xl xy l ls (hxb.h w hw) (hx0.h w hw) (hl.h w hw) hp⟩
theorem wtg1_c (w : World) (x : Wea)  : Calls Tryz.prog 192 #[.agg (weacells x)] w fun e w' => e = .returned (.bool (emptyT x)) ∧ Mem w [] w' := by
 refine calls_of (args := [_]) Tryz.func192 rfl Tryz.ntmps192 rfl ?_
 change Cw _ _ _ _ _ [(0, .agg (weacells x))] []
 refine cw_seq ?_
 refine cw_region ?_
 refine sq_boxA rfl fun b1 => ?_
 refine sq_r (ry_assign rfl) ?_
 refine sq_nil ?_
 refine ex_then ?_
 refine cw_seq ?_
 refine cw_region ?_
 refine sq_r (ry_field (o' := 1) rfl rfl) ?_
 refine sq_r (ry_cellc rfl) ?_
 refine sq_r (ry_int rfl rfl rfl) ?_
 refine sq_r (ry_assign rfl) ?_
 refine sq_nil ?_
 refine ex_then ?_
 refine cw_ret ?_
 refine ex_ret (.inl rfl) (res_1 rfl (rv_tmp rfl)) (fun w1 hw => ?_)
 exact ⟨congrArg (fun b => Ending.returned (Value.bool b)) (rfl), Keep.mem hw⟩
instance {w0 : World} {L : List Ent} : Rul Tryz.prog w0 L 192 #[] weacells emptyT := ⟨inferInstance, fun w _ x => wtg1_c w x⟩
theorem wtg3_c (w : World) (x : Wea)  : Calls Tryz.prog 194 #[.agg (weacells x)] w fun e w' => e = .returned (.bool (begunT x)) ∧ Mem w [] w' := by
 refine calls_of (args := [_]) Tryz.func194 rfl Tryz.ntmps194 rfl ?_
 change Cw _ _ _ _ _ [(0, .agg (weacells x))] []
 refine cw_seq ?_
 refine cw_region ?_
 refine sq_boxA rfl fun b1 => ?_
 refine sq_r (ry_assign rfl) ?_
 refine sq_nil ?_
 refine ex_then ?_
 refine cw_seq ?_
 refine cw_region ?_
 refine sq_r (ry_field (o' := 2) rfl rfl) ?_
 refine sq_r (ry_cellc rfl) ?_
 refine sq_r (ry_int rfl rfl rfl) ?_
 refine sq_r (ry_assign rfl) ?_
 refine sq_nil ?_
 refine ex_then ?_
 refine cw_ret ?_
 refine ex_ret (.inl rfl) (res_1 rfl (rv_tmp rfl)) (fun w1 hw => ?_)
 exact ⟨congrArg (fun b => Ending.returned (Value.bool b)) (rfl), Keep.mem hw⟩
instance {w0 : World} {L : List Ent} : Rul Tryz.prog w0 L 194 #[] weacells begunT := ⟨inferInstance, fun w _ x => wtg3_c w x⟩
theorem wtg2_c (w : World) (cb : Nat) (cp : Int) (hcb : w.cell? ⟨cb, 0, none⟩ = Option.some (.int .i64 cp)) (x : Wea)  : Calls Tryz.prog 193 #[.agg (weacells x), .pointer (some ⟨cb, 0, none⟩)] w fun e w' => e = .returned (.bool (fullT cp x)) ∧ Mem w [] w' := by
 refine calls_of (args := [_, _]) Tryz.func193 rfl Tryz.ntmps193 rfl ?_
 change Cw _ _ _ _ _ [(0, .agg (weacells x)), (1, .pointer (some ⟨cb, 0, none⟩))] []
 refine cw_seq ?_
 refine cw_region ?_
 refine sq_boxA rfl fun b2 => ?_
 refine sq_r (ry_assign rfl) ?_
 refine sq_nil ?_
 refine ex_then ?_
 refine cw_seq ?_
 refine cw_region ?_
 refine sq_r (ry_field (o' := 1) rfl rfl) ?_
 refine sq_r (ry_cellc rfl) ?_
 refine sq_r (ry_old rfl hcb) ?_
 refine sq_r (ry_int rfl rfl rfl) ?_
 refine sq_r (ry_assign rfl) ?_
 refine sq_nil ?_
 refine ex_then ?_
 refine cw_ret ?_
 refine ex_ret (.inl rfl) (res_1 rfl (rv_tmp rfl)) (fun w1 hw => ?_)
 exact ⟨congrArg (fun b => Ending.returned (Value.bool b)) (rfl), Keep.mem hw⟩
instance {w0 : World} {L : List Ent} {cb i : Nat} {cp : Int} {T : TypeId} [q : Has L cb #[.int .i64 cp] T i] : Rul Tryz.prog w0 L 193 #[.pointer (some ⟨cb, 0, none⟩)] weacells (fullT cp) := ⟨inferInstance, fun w hw x => wtg2_c w cb cp (by rw [hw.cell q.h]; rfl) x⟩
theorem wtarget_c (w0 w : World) (L : List Ent) (k : Nat) (xc : Cp) (xa : Sl Int) (xg : UInt64) (xl : Int) (xy : Bool) (l : Sv) (ls : List Wea) [hl : Hd w0 L l weacells 4 ls] (hw : Mem w0 (blk k (wtcells (⟨⟨xc, xa, xg, xl⟩, xy⟩ : Wtr)) 141 :: fz xc :: L) w) (hpre : chipOk (cv xc) = true ∧ TrueTo (cv xc) ls) : Calls Tryz.prog 181 #[.pointer (some ⟨k, 0, none⟩), l.val] w fun e w' => ∃ zz : Cp, e = .returned (.tuple #[.int .i64 ((targetF (cv xc) ls).2.1), .int .i64 ((targetF (cv xc) ls).2.2)]) ∧ (cv zz = (targetF (cv xc) ls).1) ∧ Mem w0 (blk k (wtcells (⟨⟨zz, xa, xg, xl⟩, xy⟩ : Wtr)) 141 :: fz zz :: L) w' := by
 have hk := hpre.1
 have htl := hpre.2.1
 have hd := chip_dims hk
 refine calls_in (args := [_, _]) Tryz.func181 rfl Tryz.ntmps181 rfl hw ?_
 change Cw _ _ _ _ _ [(0, .pointer (some ⟨k, 0, none⟩)), (1, l.val)] (blk k (wtcells (⟨⟨xc, xa, xg, xl⟩, xy⟩ : Wtr)) 141 :: fz xc :: L)
 refine cw_seq ?_
 refine cw_region ?_
 refine sq_r (ry_assign rfl) ?_
 refine sq_r (ry_assign rfl) ?_
 refine sq_nil ?_
 refine ex_then ?_
 refine cw_seq ?_
 refine cw_region ?_
 refine sq_r (ry_move rfl) ?_
 refine sq_r (ry_nilp rfl) ?_
 refine sq_r (ry_field (o' := 0) rfl rfl) ?_
 refine sq_r (ry_field (o' := 0) rfl rfl) ?_
 refine sq_r (ry_field (o' := 0) rfl rfl) ?_
 refine sq_r (Ry.to (v' := .int .i64 xc.pages) (ry_cellc rfl) rfl) ?_
 refine sq_alloc1 (z := .int .i64 0) rfl fun b6 => ?_
 refine sq_store1 (by first | rfl | exact Sv.one _) rfl rfl ?_
 refine sq_nil ?_
 refine ex_then ?_
 refine cw_seq ?_
 refine cw_region ?_
 refine sq_r (ry_move rfl) ?_
 refine sq_callC rfl (by omega) fun x23 hp23 => ?_
 refine sq_r (ry_assign rfl) ?_
 refine sq_nil ?_
 refine ex_then ?_
 refine cw_seq ?_
 refine cw_seq ?_
 refine cw_region ?_
 refine sq_r (ry_move rfl) ?_
 refine sq_r (ry_cellc rfl) ?_
 refine sq_y (yl_callC rfl trivial) ?_
 refine sq_r (ry_move rfl) ?_
 refine sq_r (ry_extract (v := .int .i64 ((frontW (onlyF emptyT ls) xc.pages).1)) rfl rfl) ?_
 refine sq_r (ry_extract (v := .bool ((frontW (onlyF emptyT ls) xc.pages).2)) rfl rfl) ?_
 refine sq_r (ry_assign rfl) ?_
 refine sq_r (ry_assign rfl) ?_
 refine sq_nil ?_
 refine ex_then ?_
 refine cw_seq ?_
 refine cw_region ?_
 refine sq_r (ry_move rfl) ?_
 refine sq_nil ?_
 refine ex_then ?_
 refine cw_cond rfl (fun h0 => ?_) (fun h0 => ?_)
 ·
  try simp only [Z0, Z1, Z2, Z3, Z4, Z5, Z6, Z7, Z8, Z9] at h0
  have h0d : (targA (cv xc) ls).2 = true := h0
  have hE : (targetF (cv xc) ls) = (cv xc, (targA (cv xc) ls).1 + 2, 0) := by rw [targetF, if_pos h0d]
  have hrg := first_true hpre.2 (fun x h => (wfree_nb h).1) h0d
  change 0 ≤ (frontW (onlyF emptyT ls) xc.pages).1 ∧ (frontW (onlyF emptyT ls) xc.pages).1 < _ ∧ _ at hrg
  refine cw_seq ?_
  refine cw_region ?_
  refine sq_r (ry_move rfl) ?_
  refine sq_r (ry_add rfl rfl (by omega)) ?_
  refine sq_r (ry_assign rfl) ?_
  refine sq_r (ry_assign rfl) ?_
  refine sq_nil ?_
  refine ex_then ?_
  refine cw_ret ?_
  refine ex_pass_ret ?_
  refine ex_ret (.inl rfl) (res_2 rfl (rv_tmp rfl) (rv_tmp rfl)) (fun w1 hw => ?_)
  exact ⟨xc, by rw [hE]; rfl, by rw [hE], Keep.mem hw⟩
 ·
  try simp only [Z0, Z1, Z2, Z3, Z4, Z5, Z6, Z7, Z8, Z9] at h0
  have h0d : ¬ (targA (cv xc) ls).2 = true := fun h => by rw [show (targA (cv xc) ls).2 = false from h0] at h; cases h
  refine cw_skip ?_
  refine ex_then ?_
  refine cw_seq ?_
  refine cw_region ?_
  refine sq_r (ry_move rfl) ?_
  refine sq_r (ry_mkfunc rfl) ?_
  refine sq_callC rfl (by omega) fun x35 hp35 => ?_
  refine sq_r (ry_assign rfl) ?_
  refine sq_nil ?_
  refine ex_then ?_
  refine cw_seq ?_
  refine cw_seq ?_
  refine cw_region ?_
  refine sq_r (ry_move rfl) ?_
  refine sq_r (ry_cellc rfl) ?_
  refine sq_y (yl_callC rfl trivial) ?_
  refine sq_r (ry_move rfl) ?_
  refine sq_r (ry_extract (v := .int .i64 ((deadW (onlyF (fullT xc.pages) ls) xc.pages).1)) rfl rfl) ?_
  refine sq_r (ry_extract (v := .bool ((deadW (onlyF (fullT xc.pages) ls) xc.pages).2)) rfl rfl) ?_
  refine sq_r (ry_assign rfl) ?_
  refine sq_r (ry_assign rfl) ?_
  refine sq_nil ?_
  refine ex_then ?_
  refine cw_seq ?_
  refine cw_region ?_
  refine sq_r (ry_move rfl) ?_
  refine sq_nil ?_
  refine ex_then ?_
  refine cw_cond rfl (fun h1 => ?_) (fun h1 => ?_)
  ·
   try simp only [Z0, Z1, Z2, Z3, Z4, Z5, Z6, Z7, Z8, Z9] at h1
   have h1d : (targB (cv xc) ls).2 = true := h1
   have hE : (targetF (cv xc) ls) = ((clrF (cv xc) ((targB (cv xc) ls).1 + 2)).1, (targB (cv xc) ls).1 + 2, (clrF (cv xc) ((targB (cv xc) ls).1 + 2)).2) := by rw [targetF, if_neg h0d, if_pos h1d]
   have hrg := first_true hpre.2 (fun x h => (wdead_nb h).1) h1d
   change 0 ≤ (deadW (onlyF (fullT xc.pages) ls) xc.pages).1 ∧ (deadW (onlyF (fullT xc.pages) ls) xc.pages).1 < _ ∧ _ at hrg
   refine cw_seq ?_
   refine cw_region ?_
   refine sq_r (ry_move rfl) ?_
   refine sq_r (ry_add rfl rfl (by omega)) ?_
   refine sq_r (ry_move rfl) ?_
   refine sq_r (ry_move rfl) ?_
   refine sq_r (ry_add rfl rfl (by omega)) ?_
   refine sq_callC rfl ⟨hk, by omega, by omega⟩ fun x48 hp48 => ?_
   refine sq_r (ry_assign rfl) ?_
   refine sq_r (ry_assign rfl) ?_
   refine sq_nil ?_
   refine ex_then ?_
   refine cw_ret ?_
   refine ex_pass_ret ?_
   refine ex_ret (.inl rfl) (res_2 rfl (rv_tmp rfl) (rv_tmp rfl)) (fun w1 hw => ?_)
   exact ⟨x48, by rw [hE]; rfl, by rw [hp48, hE]; rfl, Keep.mem hw⟩
  ·
   try simp only [Z0, Z1, Z2, Z3, Z4, Z5, Z6, Z7, Z8, Z9] at h1
   have h1d : ¬ (targB (cv xc) ls).2 = true := fun h => by rw [show (targB (cv xc) ls).2 = false from h1] at h; cases h
   refine cw_skip ?_
   refine ex_then ?_
   refine cw_seq ?_
   refine cw_region ?_
   refine sq_r (ry_move rfl) ?_
   refine sq_callC rfl (by omega) fun x50 hp50 => ?_
   refine sq_r (ry_assign rfl) ?_
   refine sq_nil ?_
   refine ex_then ?_
   refine cw_seq ?_
   refine cw_seq ?_
   refine cw_region ?_
   refine sq_r (ry_move rfl) ?_
   refine sq_r (ry_cellc rfl) ?_
   refine sq_y (yl_callC rfl trivial) ?_
   refine sq_r (ry_move rfl) ?_
   refine sq_r (ry_extract (v := .int .i64 ((deadW (onlyF begunT ls) xc.pages).1)) rfl rfl) ?_
   refine sq_r (ry_extract (v := .bool ((deadW (onlyF begunT ls) xc.pages).2)) rfl rfl) ?_
   refine sq_r (ry_assign rfl) ?_
   refine sq_r (ry_assign rfl) ?_
   refine sq_nil ?_
   refine ex_then ?_
   refine cw_seq ?_
   refine cw_region ?_
   refine sq_r (ry_move rfl) ?_
   refine sq_nil ?_
   refine ex_then ?_
   refine cw_cond rfl (fun h2 => ?_) (fun h2 => ?_)
   ·
    try simp only [Z0, Z1, Z2, Z3, Z4, Z5, Z6, Z7, Z8, Z9] at h2
    have h2d : (targD (cv xc) ls).2 = true := h2
    have hE : (targetF (cv xc) ls) = ((clrF (cv xc) ((targD (cv xc) ls).1 + 2)).1, (targD (cv xc) ls).1 + 2, (clrF (cv xc) ((targD (cv xc) ls).1 + 2)).2) := by rw [targetF, if_neg h0d, if_neg h1d, if_pos h2d]
    have hrg := first_true hpre.2 (fun x h => (wdead_nb h).1) h2d
    change 0 ≤ (deadW (onlyF begunT ls) xc.pages).1 ∧ (deadW (onlyF begunT ls) xc.pages).1 < _ ∧ _ at hrg
    refine cw_seq ?_
    refine cw_region ?_
    refine sq_r (ry_move rfl) ?_
    refine sq_r (ry_add rfl rfl (by omega)) ?_
    refine sq_r (ry_move rfl) ?_
    refine sq_r (ry_move rfl) ?_
    refine sq_r (ry_add rfl rfl (by omega)) ?_
    refine sq_callC rfl ⟨hk, by omega, by omega⟩ fun x63 hp63 => ?_
    refine sq_r (ry_assign rfl) ?_
    refine sq_r (ry_assign rfl) ?_
    refine sq_nil ?_
    refine ex_then ?_
    refine cw_ret ?_
    refine ex_pass_ret ?_
    refine ex_ret (.inl rfl) (res_2 rfl (rv_tmp rfl) (rv_tmp rfl)) (fun w1 hw => ?_)
    exact ⟨x63, by rw [hE]; rfl, by rw [hp63, hE]; rfl, Keep.mem hw⟩
   ·
    try simp only [Z0, Z1, Z2, Z3, Z4, Z5, Z6, Z7, Z8, Z9] at h2
    have h2d : ¬ (targD (cv xc) ls).2 = true := fun h => by rw [show (targD (cv xc) ls).2 = false from h2] at h; cases h
    refine cw_skip ?_
    refine ex_then ?_
    refine cw_seq ?_
    refine cw_region ?_
    refine sq_r (ry_assign rfl) ?_
    refine sq_r (ry_assign rfl) ?_
    refine sq_nil ?_
    refine ex_then ?_
    refine cw_ret ?_
    refine ex_ret (.inl rfl) (res_2 rfl (rv_tmp rfl) (rv_tmp rfl)) (fun w1 hw => ?_)
    exact ⟨xc, by rw [targetF, if_neg h0d, if_neg h1d, if_neg h2d], by rw [targetF, if_neg h0d, if_neg h1d, if_neg h2d], Keep.mem hw⟩
instance wtarget_i {w0 : World} {L R1 L2 : List Ent} {i0 i1 : Nat} {k : Nat} {xc : Cp} {xa : Sl Int} {xg : UInt64} {xl : Int} {xy : Bool} {l : Sv} {ls : List Wea} [q0 : Has L k (wtcells (⟨⟨xc, xa, xg, xl⟩, xy⟩ : Wtr)) 141 i0] [d0 : DelI L i0 R1] [q1 : At R1 (fz xc) i1] [d1 : DelI R1 i1 L2] [hl : Hd w0 L2 l weacells 4 ls] : FnC Tryz.prog 181 w0 L [.pointer (some ⟨k, 0, none⟩), l.val] (Cp) (fun zz => .tuple #[.int .i64 ((targetF (cv xc) ls).2.1), .int .i64 ((targetF (cv xc) ls).2.2)]) (fun zz => blk k (wtcells (⟨⟨zz, xa, xg, xl⟩, xy⟩ : Wtr)) 141 :: fz zz :: L2) (fun zz => cv zz = (targetF (cv xc) ls).1) (chipOk (cv xc) = true ∧ TrueTo (cv xc) ls) := ⟨fun hp w hw => wtarget_c w0 w L2 k xc xa xg xl xy l ls (mem_two q0.h d0.h q1.h d1.h hw) hp⟩

end Go.Proofs.YtaipiecplldinaaGreat

/- A writer: what does not count collected. -/
namespace Go.Proofs.YtaipiecplldinaaGreat
open Go.Eng Go.Kb
open Go.RowKit
theorem wrelieve_c (w0 w : World) (L : List Ent) (k : Nat) (xc : Cp) (xa : Sl Int) (xg : UInt64) (xl : Int) (xy : Bool) (l : Sv) (ls : List Wea) (i : Int) [hl : Hd w0 L l weacells 4 ls] (hw : Mem w0 (blk k (wtcells (⟨⟨xc, xa, xg, xl⟩, xy⟩ : Wtr)) 141 :: fz xc :: fz xa :: L) w) (hpre : WrOk (⟨⟨cv xc, xa.xs, xg.toNat, xl⟩, xy⟩ : WV) ∧ TrueTo (cv xc) ls ∧ 0 ≤ i ∧ i < ls.length) : Calls Tryz.prog 168 #[.pointer (some ⟨k, 0, none⟩), l.val, .int .i64 i] w fun e w' => ∃ zz : Cp × Sl Int × UInt64 × Int, e = .returned (.int .i64 ((relieveF (⟨⟨cv xc, xa.xs, xg.toNat, xl⟩, xy⟩ : WV) ls i).2)) ∧ ((⟨⟨cv zz.1, zz.2.1.xs, zz.2.2.1.toNat, zz.2.2.2⟩, xy⟩ : WV) = (relieveF (⟨⟨cv xc, xa.xs, xg.toNat, xl⟩, xy⟩ : WV) ls i).1) ∧ Mem w0 (blk k (wtcells (⟨⟨zz.1, zz.2.1, zz.2.2.1, zz.2.2.2⟩, xy⟩ : Wtr)) 141 :: fz zz.1 :: fz zz.2.1 :: L) w' := by
 obtain ⟨hwx, htr, hi0, hi1⟩ := hpre
 have hk : chipOk (cv xc) = true := hwx.chip
 have h4b : 4 ≤ (cv xc).blocks.length := hwx.len'
 have hd := chip_dims hk
 have htl := htr.1
 obtain ⟨z, hz⟩ := get_some (xs := ls) (i := i.toNat) (by omega)
 have hgz : ls.getD i.toNat zWea = z := by simp [List.getD, hz]
 have hol : (ls.set i.toNat badWea).length = ls.length := List.length_set
 refine calls_in (args := [_, _, _]) Tryz.func168 rfl Tryz.ntmps168 rfl hw ?_
 change Cw _ _ _ _ _ [(0, .pointer (some ⟨k, 0, none⟩)), (1, l.val), (2, .int .i64 i)] (blk k (wtcells (⟨⟨xc, xa, xg, xl⟩, xy⟩ : Wtr)) 141 :: fz xc :: fz xa :: L)
 refine cw_seq ?_
 refine cw_region ?_
 refine sq_r (ry_assign rfl) ?_
 refine sq_nil ?_
 refine ex_then ?_
 refine cw_seq ?_
 refine cw_region ?_
 refine sq_r (ry_move rfl) ?_
 refine sq_callC rfl (by omega) fun x12 hp12 => ?_
 refine sq_r (ry_assign rfl) ?_
 refine sq_nil ?_
 refine ex_then ?_
 refine cw_seq ?_
 refine cw_region ?_
 refine sq_r (ry_move rfl) ?_
 refine sq_r (ry_move rfl) ?_
 refine sq_r (ry_build (v := .agg (weacells badWea)) rfl bad_build) ?_
 refine sq_r (ry_idxH rfl rfl i.toNat (by omega) (by omega)) ?_
 refine sq_storeS (s := x12) (n := 4) (k := i.toNat) (j := 0) (a := z) (a' := badWea) (xs := ls) (enc := weacells) (c := 4) (v := .agg (weacells badWea)) (by kernel_rfl) rfl rfl rfl hz (Enc.one (enc := weacells) (c := 4) _) rfl (by decide) (by rfl) ?_
 refine sq_nil ?_
 refine ex_then ?_
 refine cw_seq ?_
 refine cw_region ?_
 refine sq_r (ry_move rfl) ?_
 refine sq_r (ry_move rfl) ?_
 refine sq_callC rfl ⟨hk, htr.set i.toNat⟩ fun x20 hp20 => ?_
 obtain ⟨t1, t2, t3, t4, t5, t6⟩ := target_ok hk (htr.set i.toNat)
 rw [← hp20] at t1 t2 t3 t4 t5 t6
 have hwt : WrOk (⟨⟨cv x20, xa.xs, xg.toNat, xl⟩, xy⟩ : WV) := hwx.on t1 t2
 refine sq_r (ry_move rfl) ?_
 refine sq_r (ry_extract (v := .int .i64 ((targetF (cv xc) (ls.set i.toNat badWea)).2.1)) rfl rfl) ?_
 refine sq_r (ry_extract (v := .int .i64 ((targetF (cv xc) (ls.set i.toNat badWea)).2.2)) rfl rfl) ?_
 refine sq_r (ry_assign rfl) ?_
 refine sq_r (ry_assign rfl) ?_
 refine sq_nil ?_
 refine ex_then ?_
 refine cw_cut (X := Unit) (fun zz => [(8, .int .i64 ((relTo (cv xc) ls i).1)), (9, .int .i64 ((relTo (cv xc) ls i).2)), (0, .pointer (some ⟨k, 0, none⟩)), (1, l.val), (2, .int .i64 i)]) (fun zz => blk k (wtcells (⟨⟨x20, xa, xg, xl⟩, xy⟩ : Wtr)) 141 :: fz x20 :: fz xa :: L) (fun zz => True) ?_ ?_
 ·
  refine cw_seq ?_
  refine cw_quiet (by kernel_rfl) (by kernel_rfl) ?_
  refine qt_r (ry_move rfl) ?_
  refine qt_r (ry_int rfl rfl rfl) ?_
  refine qt_r (ry_move rfl) ?_
  refine qt_gt rfl rfl rfl (fun hg => (Ry.yl (ry_move rfl))) ?_
  refine qt_gt rfl rfl rfl (fun hg => (Ry.yl (ry_move rfl))) ?_
  refine qt_gt rfl rfl rfl (fun hg => (Ry.yl (ry_nilp (ev_c hg rfl)))) ?_
  refine qt_gt rfl rfl rfl (fun hg => (Ry.yl (ry_field (o' := 0) (ev_c hg rfl) rfl))) ?_
  refine qt_gt rfl rfl rfl (fun hg => (Ry.yl (ry_field (o' := 0) (ev_c hg rfl) rfl))) ?_
  refine qt_gt rfl rfl rfl (fun hg => (Ry.yl (ry_field (o' := 0) (ev_c hg rfl) rfl))) ?_
  refine qt_gt rfl rfl rfl (fun hg => (Ry.yl (Ry.to (v' := .int .i64 x20.pages) (ry_cellc (ev_c hg rfl)) rfl))) ?_
  refine qt_gt rfl rfl rfl (fun hg => yl_callC (evl_cons (ev_c hg rfl) (evl_cons (ev_c hg rfl) evl_nil)) trivial) ?_
  refine qt_gt rfl rfl rfl (fun hg => (Ry.yl (ry_move rfl))) ?_
  refine qt_gt rfl rfl rfl (fun hg => (Ry.yl (ry_move rfl))) ?_
  refine qt_gt rfl rfl rfl (fun hg => (Ry.yl (ry_idxH (ev_c hg rfl) (ev_c hg rfl) i.toNat (by omega) (by omega)))) ?_
  refine qt_gt rfl rfl rfl (fun hg => (Ry.yl (ry_field (ev_c hg rfl) rfl))) ?_
  refine qt_gt rfl rfl rfl (fun hg => (Ry.yl (ry_elemcH (j := 0) (ev_c hg rfl) i.toNat hz rfl (by decide)))) ?_
  refine qt_gt rfl rfl rfl (fun hg => (Ry.yl (ry_int (ev_c hg rfl) (ev_c hg rfl) rfl))) ?_
  refine qt_r (ry_and rfl rfl rfl) ?_
  refine qt_nil ?_
  refine ex_then ?_
  refine cw_cond rfl (fun h0 => ?_) (fun h0 => ?_)
  ·
   try simp only [Z0, Z1, Z2, Z3, Z4, Z5, Z6, Z7, Z8, Z9] at h0
   have hA : relAlt (cv xc) ls i = true := by
    rw [relAlt, hgz, Bool.and_eq_true, decide_eq_true_eq, decide_eq_true_eq, ← show x20.pages = (cv xc).pages from t2.pages]; exact h0
   refine cw_region ?_
   refine sq_r (ry_assign rfl) ?_
   refine sq_r (ry_assign rfl) ?_
   refine sq_nil ?_
   exact ex_meet () trivial (Sub.cons (look_eq rfl (by rw [relTo, if_pos hA])) (Sub.cons (look_eq rfl (by rw [relTo, if_pos hA])) (Sub.cons rfl (Sub.cons rfl (Sub.cons rfl (Sub.nil _)))))) (fun w hw => Keep.mem hw)
  ·
   try simp only [Z0, Z1, Z2, Z3, Z4, Z5, Z6, Z7, Z8, Z9] at h0
   have hA : ¬ relAlt (cv xc) ls i = true := by
    rw [relAlt, hgz, Bool.and_eq_true, decide_eq_true_eq, decide_eq_true_eq, ← show x20.pages = (cv xc).pages from t2.pages]
    rintro ⟨ga, gb⟩
    rcases h0 with h | h
    ·
     exact h ga
    ·
     exact h gb
   refine cw_skip ?_
   exact ex_meet () trivial (Sub.cons (look_eq rfl (by rw [relTo, if_neg hA])) (Sub.cons (look_eq rfl (by rw [relTo, if_neg hA])) (Sub.cons rfl (Sub.cons rfl (Sub.cons rfl (Sub.nil _)))))) (fun w hw => Keep.mem hw)
 ·
  rintro ⟨⟩ _
  refine cw_seq ?_
  refine cw_seq ?_
  refine cw_region ?_
  refine sq_r (ry_move rfl) ?_
  refine sq_r (ry_int rfl rfl rfl) ?_
  refine sq_nil ?_
  refine ex_then ?_
  refine cw_cond rfl (fun h1 => ?_) (fun h1 => ?_)
  ·
   try simp only [Z0, Z1, Z2, Z3, Z4, Z5, Z6, Z7, Z8, Z9] at h1
   have hE : (relieveF (⟨⟨cv xc, xa.xs, xg.toNat, xl⟩, xy⟩ : WV) ls i) = (((⟨⟨cv xc, xa.xs, xg.toNat, xl⟩, xy⟩ : WV).on (cv x20)), settF (relTo (cv xc) ls i).2) := by rw [relieveF, if_pos h1, show ((⟨⟨cv xc, xa.xs, xg.toNat, xl⟩, xy⟩ : WV)).v.chip = cv xc from rfl, ← hp20]
   refine cw_seq ?_
   refine cw_region ?_
   refine sq_r (ry_move rfl) ?_
   refine sq_y (yl_callC rfl trivial) ?_
   refine sq_r (ry_assign rfl) ?_
   refine sq_nil ?_
   refine ex_then ?_
   refine cw_ret ?_
   refine ex_pass_ret ?_
   refine ex_ret (.inl rfl) (res_1 rfl (rv_tmp rfl)) (fun w1 hw => ?_)
   exact ⟨(x20, xa, xg, xl), by rw [hE], by rw [hE]; rfl, Keep.mem hw⟩
  ·
   try simp only [Z0, Z1, Z2, Z3, Z4, Z5, Z6, Z7, Z8, Z9] at h1
   have h1d : ¬ (relTo (cv xc) ls i).2 ≠ 0 := fun h => h h1
   have hst : (relieveF (⟨⟨cv xc, xa.xs, xg.toNat, xl⟩, xy⟩ : WV) ls i) = (if (moveF (⟨⟨cv x20, xa.xs, xg.toNat, xl⟩, xy⟩ : WV) (i + 2) (relTo (cv xc) ls i).1).2.1 = false ∨ z.used = xc.pages then ((moveF (⟨⟨cv x20, xa.xs, xg.toNat, xl⟩, xy⟩ : WV) (i + 2) (relTo (cv xc) ls i).1).1, (moveF (⟨⟨cv x20, xa.xs, xg.toNat, xl⟩, xy⟩ : WV) (i + 2) (relTo (cv xc) ls i).1).2.2) else ((moveF (⟨⟨cv x20, xa.xs, xg.toNat, xl⟩, xy⟩ : WV) (i + 2) (relTo (cv xc) ls i).1).1.on (clrF (moveF (⟨⟨cv x20, xa.xs, xg.toNat, xl⟩, xy⟩ : WV) (i + 2) (relTo (cv xc) ls i).1).1.v.chip (i + 2)).1, settF (clrF (moveF (⟨⟨cv x20, xa.xs, xg.toNat, xl⟩, xy⟩ : WV) (i + 2) (relTo (cv xc) ls i).1).1.v.chip (i + 2)).2)) := by
    rw [relieveF]
    refine (if_neg h1d).trans ?_
    rw [hgz, show ((⟨⟨cv xc, xa.xs, xg.toNat, xl⟩, xy⟩ : WV)).v.chip = cv xc from rfl, ← hp20]; rfl
   refine cw_skip ?_
   refine ex_then ?_
   refine cw_seq ?_
   refine cw_region ?_
   refine sq_r (ry_move rfl) ?_
   refine sq_r (ry_move rfl) ?_
   refine sq_r (ry_add rfl rfl (by omega)) ?_
   refine sq_r (ry_move rfl) ?_
   refine sq_callC rfl ⟨hwt, by omega, by rw [t2.len]; omega, fun h => by rw [t2.len]; have := relTo_ok (i := i) hk htr h1 h; exact ⟨this.1, this.2.1⟩⟩ fun x50 hp50 => ?_
   have hm := move_okL (x := (⟨⟨cv x20, xa.xs, xg.toNat, xl⟩, xy⟩ : WV)) (src := i + 2) (to := (relTo (cv xc) ls i).1) hwt (fun h => by
    have := relTo_ok (i := i) hk htr h1 h
    exact ⟨this.1, by rw [show ((⟨⟨cv x20, xa.xs, xg.toNat, xl⟩, xy⟩ : WV)).v.chip.blocks.length = (cv xc).blocks.length from t2.len]; exact this.2.1, by rw [show ((⟨⟨cv x20, xa.xs, xg.toNat, xl⟩, xy⟩ : WV)).v.chip = (targetF (cv xc) (ls.set i.toNat badWea)).1 from hp20]; exact this.2.2⟩)
   rw [← hp50] at hm
   obtain ⟨hw50, hl50⟩ := hm
   have hpg : x50.1.pages = xc.pages := hl50.pages.trans t2.pages
   refine sq_r (ry_move rfl) ?_
   refine sq_r (ry_extract (v := .bool ((moveF (⟨⟨cv x20, xa.xs, xg.toNat, xl⟩, xy⟩ : WV) (i + 2) ((relTo (cv xc) ls i).1)).2.1)) rfl rfl) ?_
   refine sq_r (ry_extract (v := .int .i64 ((moveF (⟨⟨cv x20, xa.xs, xg.toNat, xl⟩, xy⟩ : WV) (i + 2) ((relTo (cv xc) ls i).1)).2.2)) rfl rfl) ?_
   refine sq_r (ry_assign rfl) ?_
   refine sq_r (ry_assign rfl) ?_
   refine sq_nil ?_
   refine ex_then ?_
   refine cw_seq ?_
   refine cw_seq ?_
   refine cw_quiet (by kernel_rfl) (by kernel_rfl) ?_
   refine qt_r (ry_move rfl) ?_
   refine qt_r (ry_not rfl) ?_
   refine qt_r (ry_move rfl) ?_
   refine qt_gf rfl rfl rfl (fun hg => (Ry.yl (ry_move rfl))) ?_
   refine qt_gf rfl rfl rfl (fun hg => (Ry.yl (ry_move rfl))) ?_
   refine qt_gf rfl rfl rfl (fun hg => (Ry.yl (ry_idxH (ev_c hg rfl) (ev_c hg rfl) i.toNat (by omega) (by omega)))) ?_
   refine qt_gf rfl rfl rfl (fun hg => (Ry.yl (ry_field (ev_c hg rfl) rfl))) ?_
   refine qt_gf rfl rfl rfl (fun hg => (Ry.yl (ry_elemcH (j := 1) (ev_c hg rfl) i.toNat hz rfl (by decide)))) ?_
   refine qt_gf rfl rfl rfl (fun hg => (Ry.yl (ry_move rfl))) ?_
   refine qt_gf rfl rfl rfl (fun hg => (Ry.yl (ry_nilp (ev_c hg rfl)))) ?_
   refine qt_gf rfl rfl rfl (fun hg => (Ry.yl (ry_field (o' := 0) (ev_c hg rfl) rfl))) ?_
   refine qt_gf rfl rfl rfl (fun hg => (Ry.yl (ry_field (o' := 0) (ev_c hg rfl) rfl))) ?_
   refine qt_gf rfl rfl rfl (fun hg => (Ry.yl (ry_field (o' := 0) (ev_c hg rfl) rfl))) ?_
   refine qt_gf rfl rfl rfl (fun hg => (Ry.yl (Ry.to (v' := .int .i64 x50.1.pages) (ry_cellc (ev_c hg rfl)) rfl))) ?_
   refine qt_gf rfl rfl rfl (fun hg => (Ry.yl (ry_int (ev_c hg rfl) (ev_c hg rfl) rfl))) ?_
   refine qt_r (ry_or rfl rfl rfl) ?_
   refine qt_nil ?_
   refine ex_then ?_
   refine cw_cond rfl (fun h2 => ?_) (fun h2 => ?_)
   ·
    try simp only [Z0, Z1, Z2, Z3, Z4, Z5, Z6, Z7, Z8, Z9] at h2
    have hE := hst
    rw [if_pos (by rw [← hpg]; exact h2), ← hp50] at hE
    refine cw_seq ?_
    refine cw_region ?_
    refine sq_r (ry_move rfl) ?_
    refine sq_r (ry_assign rfl) ?_
    refine sq_nil ?_
    refine ex_then ?_
    refine cw_ret ?_
    refine ex_pass_ret ?_
    refine ex_ret (.inl rfl) (res_1 rfl (rv_tmp rfl)) (fun w1 hw => ?_)
    exact ⟨(x50.1, x50.2.1, x50.2.2.1, x50.2.2.2), by rw [hE], by rw [hE], Keep.mem hw⟩
   ·
    try simp only [Z0, Z1, Z2, Z3, Z4, Z5, Z6, Z7, Z8, Z9] at h2
    have hE := hst
    rw [if_neg (by rw [← hpg]; rintro (g | g)
                   · exact absurd (h2.1.symm.trans g) (by simp)
                   · exact h2.2 g), ← hp50] at hE
    refine cw_skip ?_
    refine ex_then ?_
    refine cw_seq ?_
    refine cw_region ?_
    refine sq_r (ry_move rfl) ?_
    refine sq_r (ry_move rfl) ?_
    refine sq_r (ry_add rfl rfl (by omega)) ?_
    refine sq_callC rfl ⟨hw50.chip, by omega, by rw [hl50.len, t2.len]; omega⟩ fun x73 hp73 => ?_
    refine sq_y (yl_callC rfl trivial) ?_
    refine sq_r (ry_assign rfl) ?_
    refine sq_nil ?_
    refine ex_then ?_
    refine cw_ret ?_
    refine ex_ret (.inl rfl) (res_1 rfl (rv_tmp rfl)) (fun w1 hw => ?_)
    exact ⟨(x73, x50.2.1, x50.2.2.1, x50.2.2.2), by rw [hE], by rw [hE, hp73]; rfl, Keep.mem hw⟩
instance wrelieve_i {w0 : World} {L R1 R2 L2 : List Ent} {i0 i1 i2 : Nat} {k : Nat} {xc : Cp} {xa : Sl Int} {xg : UInt64} {xl : Int} {xy : Bool} {l : Sv} {ls : List Wea} {i : Int} [q0 : Has L k (wtcells (⟨⟨xc, xa, xg, xl⟩, xy⟩ : Wtr)) 141 i0] [d0 : DelI L i0 R1] [q1 : At R1 (fz xc) i1] [d1 : DelI R1 i1 R2] [q2 : At R2 (fz xa) i2] [d2 : DelI R2 i2 L2] [hl : Hd w0 L2 l weacells 4 ls] : FnC Tryz.prog 168 w0 L [.pointer (some ⟨k, 0, none⟩), l.val, .int .i64 i] (Cp × Sl Int × UInt64 × Int) (fun zz => .int .i64 ((relieveF (⟨⟨cv xc, xa.xs, xg.toNat, xl⟩, xy⟩ : WV) ls i).2)) (fun zz => blk k (wtcells (⟨⟨zz.1, zz.2.1, zz.2.2.1, zz.2.2.2⟩, xy⟩ : Wtr)) 141 :: fz zz.1 :: fz zz.2.1 :: L2) (fun zz => (⟨⟨cv zz.1, zz.2.1.xs, zz.2.2.1.toNat, zz.2.2.2⟩, xy⟩ : WV) = (relieveF (⟨⟨cv xc, xa.xs, xg.toNat, xl⟩, xy⟩ : WV) ls i).1) (WrOk (⟨⟨cv xc, xa.xs, xg.toNat, xl⟩, xy⟩ : WV) ∧ TrueTo (cv xc) ls ∧ 0 ≤ i ∧ i < ls.length) := ⟨fun hp w hw => wrelieve_c w0 w L2 k xc xa xg xl xy l ls i (mem_three q0.h d0.h q1.h d1.h q2.h d2.h hw) hp⟩
theorem wcol1_c (w : World) (cb k : Nat) (xc : Cp) (xa : Sl Int) (xg : UInt64) (xl : Int) (xy : Bool) (hcb : w.cell? ⟨cb, 0, none⟩ = Option.some (.pointer (some ⟨k, 0, none⟩))) (hkb : w.heap[k]? = Option.some (.cells (wtcells (⟨⟨xc, xa, xg, xl⟩, xy⟩ : Wtr)) 141 (0, 0))) (x : Wea)  : Calls Tryz.prog 170 #[.agg (weacells x), .pointer (some ⟨cb, 0, none⟩)] w fun e w' => e = .returned (.bool (begT xc.pages x)) ∧ Mem w [] w' := by
 have gkb : OldB w k (wtcells (⟨⟨xc, xa, xg, xl⟩, xy⟩ : Wtr)) 141 := ⟨hkb⟩
 have hct : ctop = 1099511627776 := rfl
 refine calls_of (args := [_, _]) Tryz.func170 rfl Tryz.ntmps170 rfl ?_
 change Cw _ _ _ _ _ [(0, .agg (weacells x)), (1, .pointer (some ⟨cb, 0, none⟩))] []
 refine cw_seq ?_
 refine cw_region ?_
 refine sq_boxA rfl fun b2 => ?_
 refine sq_r (ry_assign rfl) ?_
 refine sq_nil ?_
 refine ex_then ?_
 refine cw_seq ?_
 refine cw_quiet (by kernel_rfl) (by kernel_rfl) ?_
 refine qt_r (ry_field (o' := 1) rfl rfl) ?_
 refine qt_r (ry_cellc rfl) ?_
 refine qt_r (ry_old rfl hcb) ?_
 refine qt_r (ry_nilp rfl) ?_
 refine qt_r (ry_field (o' := 0) rfl rfl) ?_
 refine qt_r (ry_field (o' := 0) rfl rfl) ?_
 refine qt_r (ry_field (o' := 0) rfl rfl) ?_
 refine qt_r (Ry.to (v' := .int .i64 xc.pages) (ry_cellP rfl) rfl) ?_
 refine qt_r (ry_int rfl rfl rfl) ?_
 refine qt_r (ry_move rfl) ?_
 refine qt_gt rfl rfl rfl (fun hg => (Ry.yl (ry_field (o' := 2) rfl rfl))) ?_
 refine qt_gt rfl rfl rfl (fun hg => (Ry.yl (ry_cellc (ev_c hg rfl)))) ?_
 refine qt_gt rfl rfl rfl (fun hg => (Ry.yl (ry_int (ev_c hg rfl) rfl rfl))) ?_
 refine qt_r (ry_and rfl rfl rfl) ?_
 refine qt_r (ry_assign rfl) ?_
 refine qt_nil ?_
 refine ex_then ?_
 refine cw_ret ?_
 refine ex_ret (.inl rfl) (res_1 rfl (rv_tmp rfl)) (fun w1 hw => ?_)
 exact ⟨congrArg (fun b => Ending.returned (Value.bool b)) (rfl), Keep.mem hw⟩
instance {w0 : World} {L : List Ent} {cb k i j : Nat} {xc : Cp} {xa : Sl Int} {xg : UInt64} {xl : Int} {xy : Bool} {T : TypeId} [q : Has L cb #[.pointer (some ⟨k, 0, none⟩)] T i] [q2 : Has L k (wtcells (⟨⟨xc, xa, xg, xl⟩, xy⟩ : Wtr)) 141 j] : Rul Tryz.prog w0 L 170 #[.pointer (some ⟨cb, 0, none⟩)] weacells (begT xc.pages) := ⟨inferInstance, fun w hw x => wcol1_c w cb k xc xa xg xl xy (by rw [hw.cell q.h]; rfl) (hw.block q2.h) x⟩
theorem wcollect_c (w0 w : World) (L : List Ent) (k : Nat) (xc : Cp) (xa : Sl Int) (xg : UInt64) (xl : Int) (xy : Bool)   (hw : Mem w0 (blk k (wtcells (⟨⟨xc, xa, xg, xl⟩, xy⟩ : Wtr)) 141 :: fz xc :: fz xa :: L) w) (hpre : WrOk (⟨⟨cv xc, xa.xs, xg.toNat, xl⟩, xy⟩ : WV)) : Calls Tryz.prog 152 #[.pointer (some ⟨k, 0, none⟩)] w fun e w' => ∃ zz : Cp × Sl Int × UInt64 × Int, e = .returned (.int .i64 ((collectF (⟨⟨cv xc, xa.xs, xg.toNat, xl⟩, xy⟩ : WV)).2)) ∧ ((⟨⟨cv zz.1, zz.2.1.xs, zz.2.2.1.toNat, zz.2.2.2⟩, xy⟩ : WV) = (collectF (⟨⟨cv xc, xa.xs, xg.toNat, xl⟩, xy⟩ : WV)).1) ∧ Mem w0 (blk k (wtcells (⟨⟨zz.1, zz.2.1, zz.2.2.1, zz.2.2.2⟩, xy⟩ : Wtr)) 141 :: fz zz.1 :: fz zz.2.1 :: L) w' := by
 have hwx := hpre
 have hk : chipOk (cv xc) = true := hwx.chip
 have h4b : 4 ≤ (cv xc).blocks.length := hwx.len'
 have hd := chip_dims hk
 have hgn : xg.toNat < 281474976710656 := hwx.gen
 have hkn : KnOk (cv xc) (flatI [xa]) := by rw [flatI_one]; exact (show NmOk (cv xc) xa.xs from hwx.nums).kn hk (by omega) (by have : xa.xs.length ≤ 64 := hwx.few; omega)
 have htr : TrueTo (cv xc) (blksF (cv xc) (flatI [xa])) := trueTo_blks _ _
 have htl := htr.1
 have hfl : (flatI [xa]).length ≤ 64 := by rw [flatI_one]; exact hwx.few
 have hbd : ∀ x ∈ (blksF (cv xc) (flatI [xa])), 0 ≤ x.live ∧ x.live ≤ 1000000 ∧ 0 ≤ x.used ∧ x.used ≤ 1000000 := fun x hx => by
  have t := blks_told hk hx
  have := t.live0; have := t.live1; have := t.used0; have := t.used1
  exact ⟨by omega, by omega, by omega, by omega⟩
 have hcol : (collectF (⟨⟨cv xc, xa.xs, xg.toNat, xl⟩, xy⟩ : WV)) = (if (vicF (blksF (cv xc) (flatI [xa])) xc.pages).2 = true ∧ finalF xg.toNat = false then (if (relieveF (⟨⟨cv xc, xa.xs, xg.toNat, xl⟩, xy⟩ : WV) (blksF (cv xc) (flatI [xa])) (vicF (blksF (cv xc) (flatI [xa])) xc.pages).1).2 ≠ 6 then (relieveF (⟨⟨cv xc, xa.xs, xg.toNat, xl⟩, xy⟩ : WV) (blksF (cv xc) (flatI [xa])) (vicF (blksF (cv xc) (flatI [xa])) xc.pages).1) else tailF (relieveF (⟨⟨cv xc, xa.xs, xg.toNat, xl⟩, xy⟩ : WV) (blksF (cv xc) (flatI [xa])) (vicF (blksF (cv xc) (flatI [xa])) xc.pages).1).1 (blksF (cv xc) (flatI [xa]))) else tailF (⟨⟨cv xc, xa.xs, xg.toNat, xl⟩, xy⟩ : WV) (blksF (cv xc) (flatI [xa]))) := by
  have e : (blksF (cv xc) (flatI [xa])) = colL (⟨⟨cv xc, xa.xs, xg.toNat, xl⟩, xy⟩ : WV) := by rw [flatI_one]; rfl
  rw [e]; rfl
 refine calls_in (args := [_]) Tryz.func152 rfl Tryz.ntmps152 rfl hw ?_
 change Cw _ _ _ _ _ [(0, .pointer (some ⟨k, 0, none⟩))] (blk k (wtcells (⟨⟨xc, xa, xg, xl⟩, xy⟩ : Wtr)) 141 :: fz xc :: fz xa :: L)
 refine cw_seq ?_
 refine cw_region ?_
 refine sq_box1 (by first | rfl | exact Sv.cells_val _) rfl fun b1 => ?_
 refine sq_r (ry_assign rfl) ?_
 refine sq_nil ?_
 refine ex_then ?_
 refine cw_seq ?_
 refine cw_lin [6, 7] [[], [], [], [], [], [], [], [6], [6, 7]] [0, 1, 2, 3, 4, 5, 6, 7, 8] [blk b1 #[.pointer (some ⟨k, 0, none⟩)] 139, blk k (wtcells (⟨⟨xc, xa, xg, xl⟩, xy⟩ : Wtr)) 141, fz xa] (fun _ hw => Keep.mem hw) (by kernel_rfl) (by kernel_rfl) ?_
 refine ln_r rfl (ry_cellc rfl) ?_
 refine ln_r rfl (ry_cellc rfl) ?_
 refine ln_r rfl (ry_nilp rfl) ?_
 refine ln_r rfl (ry_field (o' := 0) rfl rfl) ?_
 refine ln_r rfl (ry_field (o' := 6) rfl rfl) ?_
 refine ln_r rfl (Ry.to (v' := xa.sv.val) (ry_cellc rfl) rfl) ?_
 refine ln_st rfl (st_buildSlice (enc := scells) (vals := [xa.sv.val]) [xa] rfl (by simp only [List.map_cons, List.map_nil, Sv.cells_val]; rfl) rfl (by decide) (by decide) fun b16 => ⟨fun _ hw => Keep.mem hw, ?_⟩)
 refine ln_st rfl (st_callC (hc := wblocks_i (l := (⟨⟨false, b16, 0, 1, 1, none⟩, [xa]⟩ : Sl (Sl Int)))) rfl hkn fun x17 hp17 => ⟨fun _ hw => Keep.mem hw, ?_⟩)
 refine ln_r rfl (ry_assign rfl) ?_
 refine ln_nil ?_
 refine ex_then ?_
 refine cw_cut (X := Cp × Sl Int × UInt64 × Int) (fun zz => [(1, .pointer (some ⟨b1, 0, none⟩)), (3, x17.val)]) (fun zz => blk b1 #[.pointer (some ⟨k, 0, none⟩)] 139 :: blk k (wtcells (⟨⟨zz.1, zz.2.1, zz.2.2.1, zz.2.2.2⟩, xy⟩ : Wtr)) 141 :: fz zz.1 :: fz zz.2.1 :: own weacells 4 x17 (blksF (cv xc) (flatI [xa])) :: L) (fun zz => (collectF (⟨⟨cv xc, xa.xs, xg.toNat, xl⟩, xy⟩ : WV)) = tailF (⟨⟨cv zz.1, zz.2.1.xs, zz.2.2.1.toNat, zz.2.2.2⟩, xy⟩ : WV) (blksF (cv xc) (flatI [xa])) ∧ WrOk (⟨⟨cv zz.1, zz.2.1.xs, zz.2.2.1.toNat, zz.2.2.2⟩, xy⟩ : WV) ∧ TrueTo (cv zz.1) (blksF (cv xc) (flatI [xa]))) ?_ ?_
 ·
  refine cw_seq ?_
  refine cw_region ?_
  refine sq_r (ry_cellc rfl) ?_
  refine sq_r (ry_move rfl) ?_
  refine sq_y (yl_callC rfl ⟨show (blksF (cv xc) (flatI [xa])).length ≤ 1000000 by omega, hbd⟩) ?_
  refine sq_r (ry_move rfl) ?_
  refine sq_r (ry_extract (v := .int .i64 ((vicF (blksF (cv xc) (flatI [xa])) xc.pages).1)) rfl rfl) ?_
  refine sq_r (ry_extract (v := .bool ((vicF (blksF (cv xc) (flatI [xa])) xc.pages).2)) rfl rfl) ?_
  refine sq_r (ry_assign rfl) ?_
  refine sq_r (ry_assign rfl) ?_
  refine sq_nil ?_
  refine ex_then ?_
  refine cw_seq ?_
  refine cw_region ?_
  refine sq_r (ry_move rfl) ?_
  refine sq_r (ry_move rfl) ?_
  refine sq_gt rfl rfl rfl (fun hg => (Ry.yl (ry_cellc rfl))) ?_
  refine sq_gt rfl rfl rfl (fun hg => yl_callC (evl_cons (ev_c hg rfl) evl_nil) hgn) ?_
  refine sq_gt rfl rfl rfl (fun hg => (Ry.yl (ry_not (ev_c hg rfl)))) ?_
  refine sq_r (ry_and rfl rfl rfl) ?_
  refine sq_nil ?_
  refine ex_then ?_
  refine cw_cond rfl (fun h0 => ?_) (fun h0 => ?_)
  ·
   try simp only [Z0, Z1, Z2, Z3, Z4, Z5, Z6, Z7, Z8, Z9] at h0
   have hv := vicF_ok h0.1
   refine cw_seq ?_
   refine cw_region ?_
   refine sq_r (ry_cellc rfl) ?_
   refine sq_r (ry_move rfl) ?_
   refine sq_r (ry_move rfl) ?_
   refine sq_callC rfl ⟨hwx, htr, hv.1, hv.2⟩ fun x33 hp33 => ?_
   refine sq_r (ry_assign rfl) ?_
   refine sq_nil ?_
   refine ex_then ?_
   refine cw_seq ?_
   refine cw_region ?_
   refine sq_r (ry_move rfl) ?_
   refine sq_r (ry_int rfl rfl rfl) ?_
   refine sq_nil ?_
   refine ex_then ?_
   refine cw_cond rfl (fun h1 => ?_) (fun h1 => ?_)
   ·
    try simp only [Z0, Z1, Z2, Z3, Z4, Z5, Z6, Z7, Z8, Z9] at h1
    have hE : (collectF (⟨⟨cv xc, xa.xs, xg.toNat, xl⟩, xy⟩ : WV)) = (relieveF (⟨⟨cv xc, xa.xs, xg.toNat, xl⟩, xy⟩ : WV) (blksF (cv xc) (flatI [xa])) (vicF (blksF (cv xc) (flatI [xa])) xc.pages).1) := by rw [hcol, if_pos h0, if_pos h1]
    refine cw_seq ?_
    refine cw_region ?_
    refine sq_r (ry_move rfl) ?_
    refine sq_r (ry_assign rfl) ?_
    refine sq_nil ?_
    refine ex_then ?_
    refine cw_ret ?_
    refine ex_pass_ret ?_
    refine ex_ret (.inl rfl) (res_1 rfl (rv_tmp rfl)) (fun w1 hw => ?_)
    exact ⟨(x33.1, x33.2.1, x33.2.2.1, x33.2.2.2), by rw [hE], by rw [hE]; exact hp33, Keep.mem hw⟩
   ·
    try simp only [Z0, Z1, Z2, Z3, Z4, Z5, Z6, Z7, Z8, Z9] at h1
    have h1d : (relieveF (⟨⟨cv xc, xa.xs, xg.toNat, xl⟩, xy⟩ : WV) (blksF (cv xc) (flatI [xa])) (vicF (blksF (cv xc) (flatI [xa])) xc.pages).1).2 = 6 := h1
    obtain ⟨r1, r2, r3⟩ := relieve_ok (i := (vicF (blksF (cv xc) (flatI [xa])) xc.pages).1) hwx htr
    refine cw_skip ?_
    exact ex_meet (x33.1, x33.2.1, x33.2.2.1, x33.2.2.2) ⟨by rw [hcol, if_pos h0, if_neg (fun h => h h1d), ← hp33], by rw [hp33]; exact r1.ok, htr.like (by have := r1.like; rw [← hp33] at this; exact this) (by have := r3 h1d; rw [← hp33] at this; exact this)⟩ (Sub.cons rfl (Sub.cons rfl (Sub.nil _))) (fun w hw => Keep.mem hw)
  ·
   try simp only [Z0, Z1, Z2, Z3, Z4, Z5, Z6, Z7, Z8, Z9] at h0
   have hn0 : ¬ ((vicF (blksF (cv xc) (flatI [xa])) xc.pages).2 = true ∧ finalF xg.toNat = false) := fun g => h0.elim (fun h => absurd (h.symm.trans g.1) (by simp)) (fun h => absurd (h.symm.trans g.2) (by simp))
   refine cw_skip ?_
   exact ex_meet (xc, xa, xg, xl) ⟨by rw [hcol, if_neg hn0], hwx, htr⟩ (Sub.cons rfl (Sub.cons rfl (Sub.nil _))) (fun w hw => Keep.mem hw)
 ·
  rintro ⟨c, a, g, m⟩ ⟨hc1, hc2, hc3⟩
  dsimp only
  simp only at hc1 hc2 hc3
  have hc4 : 4 ≤ (cv c).blocks.length := hc2.len'
  have hdc := chip_dims (show chipOk (cv c) = true from hc2.chip)
  refine cw_seq ?_
  refine cw_region ?_
  refine sq_r (ry_move rfl) ?_
  refine sq_r (ry_mkfunc rfl) ?_
  refine sq_callC rfl (by omega) fun x39 hp39 => ?_
  refine sq_r (ry_assign rfl) ?_
  refine sq_nil ?_
  refine ex_then ?_
  refine cw_seq ?_
  refine cw_region ?_
  refine sq_r (ry_move rfl) ?_
  refine sq_r (ry_cellc rfl) ?_
  refine sq_r (ry_nilp rfl) ?_
  refine sq_r (ry_field (o' := 0) rfl rfl) ?_
  refine sq_r (ry_field (o' := 0) rfl rfl) ?_
  refine sq_r (ry_field (o' := 0) rfl rfl) ?_
  refine sq_r (Ry.to (v' := .int .i64 c.pages) (ry_cellc rfl) rfl) ?_
  refine sq_y (yl_callC rfl trivial) ?_
  refine sq_r (ry_move rfl) ?_
  refine sq_r (ry_extract (v := .int .i64 ((deadW (onlyF (begT c.pages) (blksF (cv xc) (flatI [xa]))) c.pages).1)) rfl rfl) ?_
  refine sq_r (ry_extract (v := .bool ((deadW (onlyF (begT c.pages) (blksF (cv xc) (flatI [xa]))) c.pages).2)) rfl rfl) ?_
  refine sq_r (ry_assign rfl) ?_
  refine sq_r (ry_assign rfl) ?_
  refine sq_nil ?_
  refine ex_then ?_
  refine cw_seq ?_
  refine cw_seq ?_
  refine cw_region ?_
  refine sq_r (ry_move rfl) ?_
  refine sq_r (ry_not rfl) ?_
  refine sq_nil ?_
  refine ex_then ?_
  refine cw_cond rfl (fun h2 => ?_) (fun h2 => ?_)
  ·
   try simp only [Z0, Z1, Z2, Z3, Z4, Z5, Z6, Z7, Z8, Z9] at h2
   have hE : tailF (⟨⟨cv c, a.xs, g.toNat, m⟩, xy⟩ : WV) (blksF (cv xc) (flatI [xa])) = ((⟨⟨cv c, a.xs, g.toNat, m⟩, xy⟩ : WV), 6) := by
    rw [tailF]
    exact if_pos (show (deadW (onlyF (begT c.pages) (blksF (cv xc) (flatI [xa]))) c.pages).2 = false from h2)
   refine cw_seq ?_
   refine cw_region ?_
   refine sq_r (ry_assign rfl) ?_
   refine sq_nil ?_
   refine ex_then ?_
   refine cw_ret ?_
   refine ex_pass_ret ?_
   refine ex_ret (.inl rfl) (res_1 rfl (rv_tmp rfl)) (fun w1 hw => ?_)
   exact ⟨(c, a, g, m), by rw [hc1, hE], by rw [hc1, hE], Keep.mem hw⟩
  ·
   try simp only [Z0, Z1, Z2, Z3, Z4, Z5, Z6, Z7, Z8, Z9] at h2
   have hrg := first_true hc3 (fun x h => (wdead_nb h).1) (show (deadW (onlyF (begT c.pages) (blksF (cv xc) (flatI [xa]))) c.pages).2 = true from h2)
   change 0 ≤ (deadW (onlyF (begT c.pages) (blksF (cv xc) (flatI [xa]))) c.pages).1 ∧ (deadW (onlyF (begT c.pages) (blksF (cv xc) (flatI [xa]))) c.pages).1 < _ ∧ _ at hrg
   have hE : tailF (⟨⟨cv c, a.xs, g.toNat, m⟩, xy⟩ : WV) (blksF (cv xc) (flatI [xa])) = ((⟨⟨cv c, a.xs, g.toNat, m⟩, xy⟩ : WV).on (clrF (cv c) ((deadW (onlyF (begT c.pages) (blksF (cv xc) (flatI [xa]))) c.pages).1 + 2)).1, settF (clrF (cv c) ((deadW (onlyF (begT c.pages) (blksF (cv xc) (flatI [xa]))) c.pages).1 + 2)).2) := by
    rw [tailF]
    exact if_neg (fun g => absurd ((show (deadW (onlyF (begT c.pages) (blksF (cv xc) (flatI [xa]))) c.pages).2 = true from h2).symm.trans g) (by simp))
   refine cw_skip ?_
   refine ex_then ?_
   refine cw_seq ?_
   refine cw_region ?_
   refine sq_r (ry_cellc rfl) ?_
   refine sq_r (ry_move rfl) ?_
   refine sq_r (ry_add rfl rfl (by omega)) ?_
   refine sq_callC rfl ⟨hc2.chip, by omega, by omega⟩ fun x56 hp56 => ?_
   refine sq_y (yl_callC rfl trivial) ?_
   refine sq_r (ry_assign rfl) ?_
   refine sq_nil ?_
   refine ex_then ?_
   refine cw_ret ?_
   refine ex_ret (.inl rfl) (res_1 rfl (rv_tmp rfl)) (fun w1 hw => ?_)
   exact ⟨(x56, a, g, m), by rw [hc1, hE], by rw [hc1, hE, hp56]; rfl, Keep.mem hw⟩
instance wcollect_i {w0 : World} {L R1 R2 L2 : List Ent} {i0 i1 i2 : Nat} {k : Nat} {xc : Cp} {xa : Sl Int} {xg : UInt64} {xl : Int} {xy : Bool}  [q0 : Has L k (wtcells (⟨⟨xc, xa, xg, xl⟩, xy⟩ : Wtr)) 141 i0] [d0 : DelI L i0 R1] [q1 : At R1 (fz xc) i1] [d1 : DelI R1 i1 R2] [q2 : At R2 (fz xa) i2] [d2 : DelI R2 i2 L2]  : FnC Tryz.prog 152 w0 L [.pointer (some ⟨k, 0, none⟩)] (Cp × Sl Int × UInt64 × Int) (fun zz => .int .i64 ((collectF (⟨⟨cv xc, xa.xs, xg.toNat, xl⟩, xy⟩ : WV)).2)) (fun zz => blk k (wtcells (⟨⟨zz.1, zz.2.1, zz.2.2.1, zz.2.2.2⟩, xy⟩ : Wtr)) 141 :: fz zz.1 :: fz zz.2.1 :: L2) (fun zz => (⟨⟨cv zz.1, zz.2.1.xs, zz.2.2.1.toNat, zz.2.2.2⟩, xy⟩ : WV) = (collectF (⟨⟨cv xc, xa.xs, xg.toNat, xl⟩, xy⟩ : WV)).1) (WrOk (⟨⟨cv xc, xa.xs, xg.toNat, xl⟩, xy⟩ : WV)) := ⟨fun hp w hw => wcollect_c w0 w L2 k xc xa xg xl xy  (mem_three q0.h d0.h q1.h d1.h q2.h d2.h hw) hp⟩

end Go.Proofs.YtaipiecplldinaaGreat

