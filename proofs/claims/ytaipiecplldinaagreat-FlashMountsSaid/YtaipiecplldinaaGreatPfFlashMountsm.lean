/- The law FlashMounts holds: whatever is on a chip, it is mounted, and each id got, as the document says; what is told of blocks is right. It holds of all arguments that can be read; its arguments read behind the call as they did. -/
import Derived.Test.YtaipiecplldinaaGreatC5
import Derived.Test.YtaipiecplldinaaGreatC2
import Derived.Test.YtaipiecplldinaaGreatC4
import Derived.Test.YtaipiecplldinaaGreatC3
import Derived.Test.YtaipiecplldinaaGreatC1
import Derived.ProofKit
import Derived.Deep.Slices
import Derived.HandedShaped
import Derived.Test.YtaipiecplldinaaGreatRows
set_option maxRecDepth 20000

/- A writer: room made. -/
set_option linter.unusedSimpArgs false
set_option linter.unusedVariables false
namespace Go.Proofs.YtaipiecplldinaaGreat
open Go.Eng Go.Kb
open Go.RowKit
theorem wspace_c (w0 w : World) (L : List Ent) (k : Nat) (xc : Cp) (xa : Sl Int) (xg : UInt64) (xl : Int) (xy : Bool) (n : Int)  (hw : Mem w0 (blk k (wtcells (⟨⟨xc, xa, xg, xl⟩, xy⟩ : Wtr)) 141 :: fz xc :: fz xa :: L) w) (hpre : WrOk (⟨⟨cv xc, xa.xs, xg.toNat, xl⟩, xy⟩ : WV)) : Calls Tryz.prog 126 #[.pointer (some ⟨k, 0, none⟩), .int .i64 n] w fun e w' => ∃ zz : Cp × Sl Int × UInt64 × Int × Bool, e = .returned (.int .i64 ((spaceF (⟨⟨cv xc, xa.xs, xg.toNat, xl⟩, xy⟩ : WV) n).2)) ∧ ((⟨⟨cv zz.1, zz.2.1.xs, zz.2.2.1.toNat, zz.2.2.2.1⟩, zz.2.2.2.2⟩ : WV) = (spaceF (⟨⟨cv xc, xa.xs, xg.toNat, xl⟩, xy⟩ : WV) n).1) ∧ Mem w0 (blk k (wtcells (⟨⟨zz.1, zz.2.1, zz.2.2.1, zz.2.2.2.1⟩, zz.2.2.2.2⟩ : Wtr)) 141 :: fz zz.1 :: fz zz.2.1 :: L) w' := by
 refine calls_in (args := [_, _]) Tryz.func126 rfl Tryz.ntmps126 rfl hw ?_
 change Cw _ _ _ _ _ [(0, .pointer (some ⟨k, 0, none⟩)), (1, .int .i64 n)] (blk k (wtcells (⟨⟨xc, xa, xg, xl⟩, xy⟩ : Wtr)) 141 :: fz xc :: fz xa :: L)
 refine cw_seq ?_
 refine cw_region ?_
 refine sq_r (ry_assign rfl) ?_
 refine sq_nil ?_
 refine ex_then ?_
 refine cw_block ?_
 refine cw_loop (X := Nat × Cp × Sl Int × UInt64 × Int) (fun zz => [(0, .pointer (some ⟨k, 0, none⟩)), (1, .int .i64 n)]) (fun zz => blk k (wtcells (⟨⟨zz.2.1, zz.2.2.1, zz.2.2.2.1, zz.2.2.2.2⟩, xy⟩ : Wtr)) 141 :: fz zz.2.1 :: fz zz.2.2.1 :: L) (fun zz => (spaceF (⟨⟨cv xc, xa.xs, xg.toNat, xl⟩, xy⟩ : WV) n) = spaceTo zz.1 (⟨⟨cv zz.2.1, zz.2.2.1.xs, zz.2.2.2.1.toNat, zz.2.2.2.2⟩, xy⟩ : WV) n ∧ WrOk (⟨⟨cv zz.2.1, zz.2.2.1.xs, zz.2.2.2.1.toNat, zz.2.2.2.2⟩, xy⟩ : WV) ∧ (ctop - (cv zz.2.1).ops).toNat < zz.1) (fun zz => zz.1) ((ctop - (cv xc).ops).toNat + 1, xc, xa, xg, xl) ⟨rfl, hpre, by simp only; omega⟩ (Sub.cons rfl (Sub.cons rfl (Sub.nil _))) (fun w hw => Keep.mem hw) ?_
 rintro ⟨m, c, a, g, q⟩ ⟨hi1, hi2, hi3⟩
 dsimp only
 simp only at hi1 hi2 hi3
 obtain ⟨r, rfl⟩ : ∃ r, m = r + 1 := ⟨m - 1, by omega⟩
 have hk : chipOk (cv c) = true := hi2.chip
 have h4b : 4 ≤ (cv c).blocks.length := hi2.len'
 have hkn : KnOk (cv c) a.xs := (show NmOk (cv c) a.xs from hi2.nums).kn hk (by omega) (by have : a.xs.length ≤ 64 := hi2.few; omega)
 have hlr : q = 0 ∨ q = 1 := hi2.last
 have hst : (spaceF (⟨⟨cv xc, xa.xs, xg.toNat, xl⟩, xy⟩ : WV) n) = (if n ≤ (roomsF (cv c) a.xs).1 then ((⟨⟨cv c, a.xs, g.toNat, q⟩, xy⟩ : WV), 0) else if n ≤ (roomsF (cv c) a.xs).2 ∧ placesF (cv c) q < 2 then ({ (⟨⟨cv c, a.xs, g.toNat, q⟩, xy⟩ : WV) with beyond := true }, 0) else if (collectF (⟨⟨cv c, a.xs, g.toNat, q⟩, xy⟩ : WV)).2 = 0 then spaceTo r (collectF (⟨⟨cv c, a.xs, g.toNat, q⟩, xy⟩ : WV)).1 n else if (collectF (⟨⟨cv c, a.xs, g.toNat, q⟩, xy⟩ : WV)).2 ≠ 6 then (collectF (⟨⟨cv c, a.xs, g.toNat, q⟩, xy⟩ : WV)) else if n ≤ (roomsF (cv c) a.xs).2 then ({ (collectF (⟨⟨cv c, a.xs, g.toNat, q⟩, xy⟩ : WV)).1 with beyond := true }, 0) else ((collectF (⟨⟨cv c, a.xs, g.toNat, q⟩, xy⟩ : WV)).1, 5)) := by rw [hi1, spaceTo]
 refine cw_block ?_
 refine cw_seq ?_
 refine cw_region ?_
 refine sq_r (ry_move rfl) ?_
 refine sq_y (yl_callC rfl hkn) ?_
 refine sq_r (ry_move rfl) ?_
 refine sq_r (ry_extract (v := .int .i64 ((roomsF (cv c) a.xs).1)) rfl rfl) ?_
 refine sq_r (ry_extract (v := .int .i64 ((roomsF (cv c) a.xs).2)) rfl rfl) ?_
 refine sq_r (ry_assign rfl) ?_
 refine sq_r (ry_assign rfl) ?_
 refine sq_nil ?_
 refine ex_then ?_
 refine cw_seq ?_
 refine cw_seq ?_
 refine cw_region ?_
 refine sq_r (ry_move rfl) ?_
 refine sq_r (ry_move rfl) ?_
 refine sq_r (ry_int rfl rfl rfl) ?_
 refine sq_nil ?_
 refine ex_then ?_
 refine cw_cond rfl (fun h0 => ?_) (fun h0 => ?_)
 ·
  try simp only [Z0, Z1, Z2, Z3, Z4, Z5, Z6, Z7, Z8, Z9] at h0
  have hE : (spaceF (⟨⟨cv xc, xa.xs, xg.toNat, xl⟩, xy⟩ : WV) n) = ((⟨⟨cv c, a.xs, g.toNat, q⟩, xy⟩ : WV), 0) := by rw [hst, if_pos h0]
  refine cw_seq ?_
  refine cw_region ?_
  refine sq_r (ry_assign rfl) ?_
  refine sq_nil ?_
  refine ex_then ?_
  refine cw_ret ?_
  refine ex_pass_ret ?_
  refine ex_block_ret ?_
  refine ex_pass_ret ?_
  refine ex_block_ret ?_
  refine ex_ret (.inl rfl) (res_1 rfl (rv_tmp rfl)) (fun w1 hw => ?_)
  exact ⟨(c, a, g, q, xy), by rw [hE], by rw [hE], Keep.mem hw⟩
 ·
  try simp only [Z0, Z1, Z2, Z3, Z4, Z5, Z6, Z7, Z8, Z9] at h0
  refine cw_skip ?_
  refine ex_then ?_
  refine cw_seq ?_
  refine cw_seq ?_
  refine cw_region ?_
  refine sq_r (ry_move rfl) ?_
  refine sq_r (ry_move rfl) ?_
  refine sq_r (ry_int rfl rfl rfl) ?_
  refine sq_r (ry_move rfl) ?_
  refine sq_gt rfl rfl rfl (fun hg => (Ry.yl (ry_move rfl))) ?_
  refine sq_gt rfl rfl rfl (fun hg => yl_callC (evl_cons (ev_c hg rfl) evl_nil) ⟨hk, by omega, hlr⟩) ?_
  refine sq_gt rfl rfl rfl (fun hg => (Ry.yl (ry_int (ev_c hg rfl) rfl rfl))) ?_
  refine sq_r (ry_and rfl rfl rfl) ?_
  refine sq_nil ?_
  refine ex_then ?_
  refine cw_cond rfl (fun h1 => ?_) (fun h1 => ?_)
  ·
   try simp only [Z0, Z1, Z2, Z3, Z4, Z5, Z6, Z7, Z8, Z9] at h1
   have hE : (spaceF (⟨⟨cv xc, xa.xs, xg.toNat, xl⟩, xy⟩ : WV) n) = ({ (⟨⟨cv c, a.xs, g.toNat, q⟩, xy⟩ : WV) with beyond := true }, 0) := by rw [hst, if_neg h0, if_pos h1]
   refine cw_seq ?_
   refine cw_region ?_
   refine sq_r (ry_move rfl) ?_
   refine sq_r (ry_nilp rfl) ?_
   refine sq_r (ry_field (o' := 9) rfl rfl) ?_
   refine sq_store (cs' := wtcells (⟨⟨c, a, g, q⟩, true⟩ : Wtr)) rfl rfl (by show 9 < 10; decide) (by first | rfl | exact Sv.one _) rfl ?_
   refine sq_nil ?_
   refine ex_then ?_
   refine cw_seq ?_
   refine cw_region ?_
   refine sq_r (ry_assign rfl) ?_
   refine sq_nil ?_
   refine ex_then ?_
   refine cw_ret ?_
   refine ex_pass_ret ?_
   refine ex_block_ret ?_
   refine ex_pass_ret ?_
   refine ex_block_ret ?_
   refine ex_ret (.inl rfl) (res_1 rfl (rv_tmp rfl)) (fun w1 hw => ?_)
   exact ⟨(c, a, g, q, true), by rw [hE], by rw [hE], Keep.mem hw⟩
  ·
   try simp only [Z0, Z1, Z2, Z3, Z4, Z5, Z6, Z7, Z8, Z9] at h1
   have h1d : ¬ (n ≤ (roomsF (cv c) a.xs).2 ∧ placesF (cv c) q < 2) := fun g => h1.elim (fun h => h g.1) (fun h => h g.2)
   refine cw_skip ?_
   refine ex_then ?_
   refine cw_seq ?_
   refine cw_region ?_
   refine sq_r (ry_move rfl) ?_
   refine sq_callC rfl hi2 fun x28 hp28 => ?_
   obtain ⟨k1, k2⟩ := collect_ok hi2
   refine sq_r (ry_assign rfl) ?_
   refine sq_nil ?_
   refine ex_then ?_
   refine cw_seq ?_
   refine cw_block ?_
   refine cw_seq ?_
   refine cw_region ?_
   refine sq_r (ry_move rfl) ?_
   refine sq_r (ry_int rfl rfl rfl) ?_
   refine sq_r (ry_assign rfl) ?_
   refine sq_nil ?_
   refine ex_then ?_
   refine cw_cond rfl (fun h2 => ?_) (fun h2 => ?_)
   ·
    try simp only [Z0, Z1, Z2, Z3, Z4, Z5, Z6, Z7, Z8, Z9] at h2
    refine cw_exit ?_
    refine ex_block_miss rfl ?_
    refine ex_pass_exit ?_
    refine ex_block_hit ?_
    have h2d : (collectF (⟨⟨cv c, a.xs, g.toNat, q⟩, xy⟩ : WV)).2 = 0 := h2
    have ho : (cv c).ops < (collectF (⟨⟨cv c, a.xs, g.toNat, q⟩, xy⟩ : WV)).1.v.chip.ops := k2 h2d
    rw [← hp28] at ho
    have hle := ops_le (show chipOk (cv x28.1) = true by have := k1.ok.chip; rw [← hp28] at this; exact this)
    change (cv c).ops < (cv x28.1).ops at ho
    exact ex_again (x := (r + 1, c, a, g, q)) (r, x28.1, x28.2.1, x28.2.2.1, x28.2.2.2) ⟨by rw [hst, if_neg h0, if_neg h1d, if_pos h2d, ← hp28], by have := k1.ok; rw [← hp28] at this; exact this, by simp only; omega⟩ (by simp only; omega) (Sub.cons rfl (Sub.cons rfl (Sub.nil _))) (fun w hw => Keep.mem hw)
   ·
    try simp only [Z0, Z1, Z2, Z3, Z4, Z5, Z6, Z7, Z8, Z9] at h2
    have h2d : ¬ (collectF (⟨⟨cv c, a.xs, g.toNat, q⟩, xy⟩ : WV)).2 = 0 := h2
    refine cw_seq ?_
    refine cw_region ?_
    refine sq_r (ry_move rfl) ?_
    refine sq_r (ry_int rfl rfl rfl) ?_
    refine sq_r (ry_assign rfl) ?_
    refine sq_nil ?_
    refine ex_then ?_
    refine cw_cond rfl (fun h3 => ?_) (fun h3 => ?_)
    ·
     try simp only [Z0, Z1, Z2, Z3, Z4, Z5, Z6, Z7, Z8, Z9] at h3
     have hE : (spaceF (⟨⟨cv xc, xa.xs, xg.toNat, xl⟩, xy⟩ : WV) n) = (collectF (⟨⟨cv c, a.xs, g.toNat, q⟩, xy⟩ : WV)) := by rw [hst, if_neg h0, if_neg h1d, if_neg h2d, if_pos h3]
     refine cw_seq ?_
     refine cw_region ?_
     refine sq_r (ry_move rfl) ?_
     refine sq_r (ry_assign rfl) ?_
     refine sq_nil ?_
     refine ex_then ?_
     refine cw_ret ?_
     refine ex_block_ret ?_
     refine ex_pass_ret ?_
     refine ex_block_ret ?_
     refine ex_pass_ret ?_
     refine ex_block_ret ?_
     refine ex_ret (.inl rfl) (res_1 rfl (rv_tmp rfl)) (fun w1 hw => ?_)
     exact ⟨(x28.1, x28.2.1, x28.2.2.1, x28.2.2.2, xy), by rw [hE], by rw [hE]; exact hp28, Keep.mem hw⟩
    ·
     try simp only [Z0, Z1, Z2, Z3, Z4, Z5, Z6, Z7, Z8, Z9] at h3
     have h3d : ¬ (collectF (⟨⟨cv c, a.xs, g.toNat, q⟩, xy⟩ : WV)).2 ≠ 6 := fun h => h h3
     refine cw_seq ?_
     refine cw_region ?_
     refine sq_r (ry_move rfl) ?_
     refine sq_r (ry_move rfl) ?_
     refine sq_r (ry_int rfl rfl rfl) ?_
     refine sq_r (ry_assign rfl) ?_
     refine sq_nil ?_
     refine ex_then ?_
     refine cw_cond rfl (fun h4 => ?_) (fun h4 => ?_)
     ·
      try simp only [Z0, Z1, Z2, Z3, Z4, Z5, Z6, Z7, Z8, Z9] at h4
      have hE : (spaceF (⟨⟨cv xc, xa.xs, xg.toNat, xl⟩, xy⟩ : WV) n) = ({ (collectF (⟨⟨cv c, a.xs, g.toNat, q⟩, xy⟩ : WV)).1 with beyond := true }, 0) := by rw [hst, if_neg h0, if_neg h1d, if_neg h2d, if_neg h3d, if_pos h4]
      refine cw_seq ?_
      refine cw_region ?_
      refine sq_r (ry_move rfl) ?_
      refine sq_r (ry_nilp rfl) ?_
      refine sq_r (ry_field (o' := 9) rfl rfl) ?_
      refine sq_store (cs' := wtcells (⟨⟨x28.1, x28.2.1, x28.2.2.1, x28.2.2.2⟩, true⟩ : Wtr)) rfl rfl (by show 9 < 10; decide) (by first | rfl | exact Sv.one _) rfl ?_
      refine sq_nil ?_
      refine ex_then ?_
      refine cw_seq ?_
      refine cw_region ?_
      refine sq_r (ry_assign rfl) ?_
      refine sq_nil ?_
      refine ex_then ?_
      refine cw_ret ?_
      refine ex_block_ret ?_
      refine ex_pass_ret ?_
      refine ex_block_ret ?_
      refine ex_pass_ret ?_
      refine ex_block_ret ?_
      refine ex_ret (.inl rfl) (res_1 rfl (rv_tmp rfl)) (fun w1 hw => ?_)
      exact ⟨(x28.1, x28.2.1, x28.2.2.1, x28.2.2.2, true), by rw [hE], by rw [hE, ← hp28], Keep.mem hw⟩
     ·
      try simp only [Z0, Z1, Z2, Z3, Z4, Z5, Z6, Z7, Z8, Z9] at h4
      have hE : (spaceF (⟨⟨cv xc, xa.xs, xg.toNat, xl⟩, xy⟩ : WV) n) = ((collectF (⟨⟨cv c, a.xs, g.toNat, q⟩, xy⟩ : WV)).1, 5) := by rw [hst, if_neg h0, if_neg h1d, if_neg h2d, if_neg h3d, if_neg h4]
      refine cw_skip ?_
      refine ex_block ?_
      refine ex_then ?_
      refine cw_seq ?_
      refine cw_region ?_
      refine sq_r (ry_assign rfl) ?_
      refine sq_nil ?_
      refine ex_then ?_
      refine cw_ret ?_
      refine ex_block_ret ?_
      refine ex_pass_ret ?_
      refine ex_block_ret ?_
      refine ex_ret (.inl rfl) (res_1 rfl (rv_tmp rfl)) (fun w1 hw => ?_)
      exact ⟨(x28.1, x28.2.1, x28.2.2.1, x28.2.2.2, xy), by rw [hE], by rw [hE]; exact hp28, Keep.mem hw⟩
instance wspace_i {w0 : World} {L R1 R2 L2 : List Ent} {i0 i1 i2 : Nat} {k : Nat} {xc : Cp} {xa : Sl Int} {xg : UInt64} {xl : Int} {xy : Bool} {n : Int} [q0 : Has L k (wtcells (⟨⟨xc, xa, xg, xl⟩, xy⟩ : Wtr)) 141 i0] [d0 : DelI L i0 R1] [q1 : At R1 (fz xc) i1] [d1 : DelI R1 i1 R2] [q2 : At R2 (fz xa) i2] [d2 : DelI R2 i2 L2]  : FnC Tryz.prog 126 w0 L [.pointer (some ⟨k, 0, none⟩), .int .i64 n] (Cp × Sl Int × UInt64 × Int × Bool) (fun zz => .int .i64 ((spaceF (⟨⟨cv xc, xa.xs, xg.toNat, xl⟩, xy⟩ : WV) n).2)) (fun zz => blk k (wtcells (⟨⟨zz.1, zz.2.1, zz.2.2.1, zz.2.2.2.1⟩, zz.2.2.2.2⟩ : Wtr)) 141 :: fz zz.1 :: fz zz.2.1 :: L2) (fun zz => (⟨⟨cv zz.1, zz.2.1.xs, zz.2.2.1.toNat, zz.2.2.2.1⟩, zz.2.2.2.2⟩ : WV) = (spaceF (⟨⟨cv xc, xa.xs, xg.toNat, xl⟩, xy⟩ : WV) n).1) (WrOk (⟨⟨cv xc, xa.xs, xg.toNat, xl⟩, xy⟩ : WV)) := ⟨fun hp w hw => wspace_c w0 w L2 k xc xa xg xl xy n (mem_three q0.h d0.h q1.h d1.h q2.h d2.h hw) hp⟩

end Go.Proofs.YtaipiecplldinaaGreat

/- A writer: items written. -/
namespace Go.Proofs.YtaipiecplldinaaGreat
open Go.Eng Go.Kb
open Go.RowKit
theorem ipg_build (i : Int) (g : UInt64) (b : Sl UInt8) (w : World) : (Instr.build 110 #[(0, .int .i64 1), (1, .int .i64 i), (2, .int .u64 (g.toNat : Int)), (3, b.sv.val)]).run Tryz.prog w = .ok (.agg (pgcells ⟨1, i, g, b⟩)) w := by
 obtain ⟨⟨e, b, o, l, c, p⟩, xs⟩ := b
 unfold pgcells
 cases e <;> kernel_rfl
instance (x : It) : SizeIs (icells x) 2 := ⟨rfl, Enc.one x⟩
def wtA (k : Nat) (a : Sl Int) (g : UInt64) (T : TypeId) : Ent := ⟨fun b => b = k, fun h => ∃ (c : Cp) (l : Int) (y : Bool), h k = Option.some (.cells (wtcells ⟨⟨c, a, g, l⟩, y⟩) T (0, 0)), fun h h' e s => by obtain ⟨c, l, y, hs⟩ := s; exact ⟨c, l, y, by rw [e k rfl]; exact hs⟩⟩
theorem wtA_of {w0 w : World} {L : List Ent} {k : Nat} {a : Sl Int} {g : UInt64} {T : TypeId} {c : Cp} {l : Int} {y : Bool} (h : Mem w0 (blk k (wtcells ⟨⟨c, a, g, l⟩, y⟩) T :: L) w) : Mem w0 (wtA k a g T :: L) w := by
 have hs : w.heap[k]? = Option.some (.cells (wtcells ⟨⟨c, a, g, l⟩, y⟩) T (0, 0)) := h.block (i := 0) rfl
 refine ⟨h.below, fun e he => ?_, fun e he b hb => ?_, List.pairwise_cons.2 ⟨fun x hx b hb => (List.pairwise_cons.1 h.dis).1 x hx b hb, (List.pairwise_cons.1 h.dis).2⟩⟩
 ·
  rcases List.mem_cons.1 he with rfl | he
  ·
   exact ⟨c, l, y, hs⟩
  ·
   exact h.sat e (List.mem_cons_of_mem _ he)
 ·
  rcases List.mem_cons.1 he with rfl | he
  ·
   exact h.dom _ List.mem_cons_self b hb
  ·
   exact h.dom e (List.mem_cons_of_mem _ he) b hb
section
variable {P : Program} {N : Fra} {w0 : World} {env : Env} {L : List Ent} {d : Option Tmp} {ty : TypeId} {ps : String} {af : Array Edge} {gd : Option (Nat × Bool)}
theorem ry_atA {t : TypeId} {x : Operand} {k i : Nat} {a : Sl Int} {g : UInt64} {T : TypeId} (hx : ev env x = some (.pointer (some ⟨k, 6, none⟩))) [ht : OneT P t] (q : At L (wtA k a g T) i) : Ry P N w0 env L ⟨d, .load t x, ty, ps, af, gd⟩ a.sv.val := ry_load_one ht hx fun w hw => by
 obtain ⟨c, l, y, hs⟩ := hw.get q.h
 simp [World.cell?, show w.heap[k]? = _ from hs, wtcells]
theorem ry_genA {t : TypeId} {x : Operand} {k i : Nat} {a : Sl Int} {g : UInt64} {T : TypeId} (hx : ev env x = some (.pointer (some ⟨k, 7, none⟩))) [ht : OneT P t] (q : At L (wtA k a g T) i) : Ry P N w0 env L ⟨d, .load t x, ty, ps, af, gd⟩ (.int .u64 g.toNat) := ry_load_one ht hx fun w hw => by
 obtain ⟨c, l, y, hs⟩ := hw.get q.h
 simp [World.cell?, show w.heap[k]? = _ from hs, wtcells]
end
instance : ZeroT Tryz.prog 102 (.agg (icells ⟨0, ⟨Sv.none, []⟩⟩)) := ⟨by kernel_rfl⟩
theorem wbatch_c (w0 w : World) (L : List Ent) (k : Nat) (xc : Cp) (xa : Sl Int) (xg : UInt64) (xl : Int) (xy : Bool) (it : Sl It) [hit : HdD w0 L it] (hw : Mem w0 (blk k (wtcells (⟨⟨xc, xa, xg, xl⟩, xy⟩ : Wtr)) 141 :: fz xc :: fz xa :: L) w) (hpre : WrOk (⟨⟨cv xc, xa.xs, xg.toNat, xl⟩, xy⟩ : WV) ∧ it.xs.length ≤ 1000000 ∧ ∀ x ∈ it.xs, 0 ≤ x.id ∧ x.id < xa.xs.length ∧ x.id < 64) : Calls Tryz.prog 88 #[.pointer (some ⟨k, 0, none⟩), it.sv.val] w fun e w' => ∃ zz : Cp × Sl Int × UInt64 × Int × Bool, e = .returned (.int .i64 ((batchF (⟨⟨cv xc, xa.xs, xg.toNat, xl⟩, xy⟩ : WV) (it.xs.map itv)).2)) ∧ ((⟨⟨cv zz.1, zz.2.1.xs, zz.2.2.1.toNat, zz.2.2.2.1⟩, zz.2.2.2.2⟩ : WV) = (batchF (⟨⟨cv xc, xa.xs, xg.toNat, xl⟩, xy⟩ : WV) (it.xs.map itv)).1) ∧ Mem w0 (blk k (wtcells (⟨⟨zz.1, zz.2.1, zz.2.2.1, zz.2.2.2.1⟩, zz.2.2.2.2⟩ : Wtr)) 141 :: fz zz.1 :: fz zz.2.1 :: L) w' := by
 obtain ⟨hwx, hll, hids⟩ := hpre
 have hws : WrOk (⟨⟨cv xc, xa.xs, xg.toNat, xl⟩, false⟩ : WV) := hwx.by false
 have hil : (it.xs.map itv).length = it.xs.length := List.length_map _
 refine calls_in (args := [_, _]) Tryz.func88 rfl Tryz.ntmps88 rfl hw ?_
 change Cw _ _ _ _ _ [(0, .pointer (some ⟨k, 0, none⟩)), (1, it.sv.val)] (blk k (wtcells (⟨⟨xc, xa, xg, xl⟩, xy⟩ : Wtr)) 141 :: fz xc :: fz xa :: L)
 refine cw_seq ?_
 refine cw_region ?_
 refine sq_r (ry_assign rfl) ?_
 refine sq_nil ?_
 refine ex_then ?_
 refine cw_seq ?_
 refine cw_region ?_
 refine sq_r (ry_assign rfl) ?_
 refine sq_nil ?_
 refine ex_then ?_
 refine cw_seq ?_
 refine cw_seq ?_
 refine cw_region ?_
 refine sq_r (ry_move rfl) ?_
 refine sq_r (ry_lenH rfl) ?_
 refine sq_r (ry_move rfl) ?_
 refine sq_nil ?_
 refine ex_then ?_
 refine cw_block ?_
 refine cw_loop (X := Nat) (fun zz => [(16, .int .i64 (zz : Nat)), (5, .int .i64 ((((it.xs.map itv).take zz).filter fun x => decide (0 < x.2.length)).length : Nat)), (0, .pointer (some ⟨k, 0, none⟩)), (1, it.sv.val), (14, it.sv.val), (15, .int .i64 (it.xs.length : Nat))]) (fun zz => blk k (wtcells (⟨⟨xc, xa, xg, xl⟩, xy⟩ : Wtr)) 141 :: fz xc :: fz xa :: L) (fun zz => zz ≤ it.xs.length) (fun zz => it.xs.length - zz) 0 (Nat.zero_le _) (Sub.cons rfl (Sub.cons rfl (Sub.cons rfl (Sub.cons rfl (Sub.cons rfl (Sub.cons rfl (Sub.nil _))))))) (fun w hw => Keep.mem hw) ?_
 rintro i hi1
 refine cw_seq ?_
 refine cw_region ?_
 refine sq_r (ry_int rfl rfl rfl) ?_
 refine sq_nil ?_
 refine ex_then ?_
 refine cw_seq ?_
 refine cw_cond rfl (fun h0 => ?_) (fun h0 => ?_)
 ·
  try simp only [Z0, Z1, Z2, Z3, Z4, Z5, Z6, Z7, Z8, Z9] at h0
  obtain ⟨z, hz⟩ := get_some (xs := it.xs) (i := i) (by omega)
  have mbz : Mb z it := ⟨List.mem_of_getElem? hz⟩
  have hitz : (it.xs.map itv)[i]? = Option.some (itv z) := by rw [List.getElem?_map, hz]; rfl
  have hsn := need_snoc hitz
  have hnl : (((it.xs.map itv).take i).filter fun x => decide (0 < x.2.length)).length ≤ i := Nat.le_trans (List.length_filter_le _ _) (by rw [List.length_take]; omega)
  refine cw_skip ?_
  refine ex_then ?_
  refine cw_seq ?_
  refine cw_block ?_
  refine cw_seq ?_
  refine cw_region ?_
  refine sq_r (ry_idxH rfl rfl i rfl (by omega)) ?_
  refine sq_r (ry_elemH rfl i hz rfl) ?_
  have mb19 : Mb z it := ⟨List.mem_of_getElem? hz⟩
  refine sq_allocA fun b7 => ?_
  refine sq_storeW rfl rfl ?_
  refine sq_nil ?_
  refine ex_then ?_
  refine cw_seq ?_
  refine cw_region ?_
  refine sq_r (ry_field (o' := 1) rfl rfl) ?_
  refine sq_r (ry_cellc rfl) ?_
  refine sq_r (ry_lenH rfl) ?_
  refine sq_r (ry_int rfl rfl rfl) ?_
  refine sq_nil ?_
  refine ex_then ?_
  refine cw_cond rfl (fun h1 => ?_) (fun h1 => ?_)
  ·
   try simp only [Z0, Z1, Z2, Z3, Z4, Z5, Z6, Z7, Z8, Z9] at h1
   rw [if_pos (show 0 < (itv z).2.length from by simp only [itv]; omega)] at hsn
   refine cw_region ?_
   refine sq_r (ry_move rfl) ?_
   refine sq_r (ry_add rfl rfl (by omega)) ?_
   refine sq_r (ry_assign rfl) ?_
   refine sq_nil ?_
   refine ex_block ?_
   refine ex_then ?_
   refine cw_region ?_
   refine sq_r (ry_add rfl rfl (by omega)) ?_
   refine sq_r (ry_move rfl) ?_
   refine sq_nil ?_
   exact ex_again (x := (i)) (i + 1) (by first | omega | (simp only []; omega)) (by first | omega | (simp only []; omega)) (Sub.cons rfl (Sub.cons (look_eq rfl (by rw [hsn]; rfl)) (Sub.cons rfl (Sub.cons rfl (Sub.cons rfl (Sub.cons rfl (Sub.nil _))))))) (fun w hw => Keep.mem hw)
  ·
   try simp only [Z0, Z1, Z2, Z3, Z4, Z5, Z6, Z7, Z8, Z9] at h1
   rw [if_neg (show ¬ 0 < (itv z).2.length from by simp only [itv]; omega)] at hsn
   refine cw_skip ?_
   refine ex_block ?_
   refine ex_then ?_
   refine cw_region ?_
   refine sq_r (ry_add rfl rfl (by omega)) ?_
   refine sq_r (ry_move rfl) ?_
   refine sq_nil ?_
   exact ex_again (x := (i)) (i + 1) (by first | omega | (simp only []; omega)) (by first | omega | (simp only []; omega)) (Sub.cons rfl (Sub.cons (look_eq rfl (by rw [hsn, Nat.add_zero])) (Sub.cons rfl (Sub.cons rfl (Sub.cons rfl (Sub.cons rfl (Sub.nil _))))))) (fun w hw => Keep.mem hw)
 ·
  try simp only [Z0, Z1, Z2, Z3, Z4, Z5, Z6, Z7, Z8, Z9] at h0
  obtain rfl : i = it.xs.length := by omega
  refine cw_exit ?_
  refine ex_pass_exit ?_
  refine ex_pass_exit ?_
  refine ex_block_hit ?_
  refine ex_then ?_
  refine cw_seq ?_
  refine cw_region ?_
  refine sq_r (ry_move rfl) ?_
  refine sq_r (ry_nilp rfl) ?_
  refine sq_r (ry_field (o' := 9) rfl rfl) ?_
  refine sq_store (cs' := wtcells (⟨⟨xc, xa, xg, xl⟩, false⟩ : Wtr)) rfl rfl (by show 9 < 10; decide) (by first | rfl | exact Sv.one _) rfl ?_
  refine sq_nil ?_
  refine ex_then ?_
  refine cw_seq ?_
  refine cw_seq ?_
  have hil2 : (((it.xs.map itv).take it.xs.length).filter fun x => decide (0 < x.2.length)).length = ((it.xs.map itv).filter fun x => decide (0 < x.2.length)).length := by rw [← hil, List.take_length]
  refine cw_region ?_
  refine sq_r (ry_move rfl) ?_
  refine sq_r (ry_move rfl) ?_
  refine sq_callC rfl hws fun x32 hp32 => ?_
  have hb := batS_ok (l := (it.xs.map itv)) hwx
  have hp32b : (⟨(⟨cv x32.1, x32.2.1.xs, x32.2.2.1.toNat, x32.2.2.2.1⟩ : VV), x32.2.2.2.2⟩ : WV) = (batS (⟨⟨cv xc, xa.xs, xg.toNat, xl⟩, xy⟩ : WV) (it.xs.map itv)).1 := by rw [hp32, batS, needF, ← hil, List.take_length]
  rw [← hp32b] at hb
  have hw3 := hb.ok
  have hk3 : chipOk (cv x32.1) = true := hw3.chip
  have h4b : 4 ≤ (cv x32.1).blocks.length := hw3.len'
  have hal : x32.2.1.xs.length ≤ 64 := hw3.few
  have hatl : x32.2.1.xs.length = xa.xs.length := hb.atl
  have hg3 : x32.2.2.1.toNat < 281474976710656 := hw3.gen
  have hg1 := u64_succ hg3
  refine sq_r (ry_assign rfl) ?_
  refine sq_nil ?_
  refine ex_then ?_
  refine cw_seq ?_
  refine cw_region ?_
  refine sq_r (ry_move rfl) ?_
  refine sq_r (ry_int rfl rfl rfl) ?_
  refine sq_nil ?_
  refine ex_then ?_
  refine cw_cond rfl (fun h2 => ?_) (fun h2 => ?_)
  ·
   try simp only [Z0, Z1, Z2, Z3, Z4, Z5, Z6, Z7, Z8, Z9] at h2
   have h2d : (batS (⟨⟨cv xc, xa.xs, xg.toNat, xl⟩, xy⟩ : WV) (it.xs.map itv)).2 ≠ 0 := by rw [batS, needF, ← hil2]; exact h2
   have hE : (batchF (⟨⟨cv xc, xa.xs, xg.toNat, xl⟩, xy⟩ : WV) (it.xs.map itv)) = (batS (⟨⟨cv xc, xa.xs, xg.toNat, xl⟩, xy⟩ : WV) (it.xs.map itv)) := by rw [batchF, if_pos h2d]
   refine cw_seq ?_
   refine cw_region ?_
   refine sq_r (ry_move rfl) ?_
   refine sq_r (ry_assign rfl) ?_
   refine sq_nil ?_
   refine ex_then ?_
   refine cw_ret ?_
   refine ex_pass_ret ?_
   refine ex_ret (.inl rfl) (res_1 rfl (rv_tmp rfl)) (fun w1 hw => ?_)
   exact ⟨(x32.1, x32.2.1, x32.2.2.1, x32.2.2.2.1, x32.2.2.2.2), by rw [hE, batS, needF, ← hil2], by rw [hE]; exact hp32b, Keep.mem hw⟩
  ·
   try simp only [Z0, Z1, Z2, Z3, Z4, Z5, Z6, Z7, Z8, Z9] at h2
   have h2d : ¬ (batS (⟨⟨cv xc, xa.xs, xg.toNat, xl⟩, xy⟩ : WV) (it.xs.map itv)).2 ≠ 0 := by rw [batS, needF, ← hil2]; exact fun h => h h2
   refine cw_skip ?_
   refine ex_then ?_
   refine cw_seq ?_
   refine cw_region ?_
   refine sq_r (ry_move rfl) ?_
   refine sq_r (ry_nilp rfl) ?_
   refine sq_r (ry_field (o' := 0) rfl rfl) ?_
   refine sq_r (ry_field (o' := 6) rfl rfl) ?_
   refine sq_r (Ry.to (v' := x32.2.1.sv.val) (ry_cellc rfl) rfl) ?_
   refine sq_callC rfl (by omega) fun x41 hp41 => ?_
   refine sq_r (ry_assign rfl) ?_
   refine sq_nil ?_
   refine ex_then ?_
   refine cw_seq ?_
   refine cw_seq ?_
   refine cw_region ?_
   refine sq_r (ry_move rfl) ?_
   refine sq_r (ry_lenH rfl) ?_
   refine sq_r (ry_move rfl) ?_
   refine sq_nil ?_
   refine ex_then ?_
   refine cw_block ?_
   refine cw_loop (X := Nat × Cp × List Int) (fun zz => [(44, .int .i64 (zz.1 : Nat)), (0, .pointer (some ⟨k, 0, none⟩)), (9, x41.val), (42, it.sv.val), (43, .int .i64 (it.xs.length : Nat))]) (fun zz => blk k (wtcells (⟨⟨zz.2.1, x32.2.1, x32.2.2.1, x32.2.2.2.1⟩, x32.2.2.2.2⟩ : Wtr)) 141 :: fz zz.2.1 :: fz x32.2.1 :: own iec 1 x41 zz.2.2 :: L) (fun zz => zz.1 ≤ it.xs.length ∧ (batI (⟨⟨cv xc, xa.xs, xg.toNat, xl⟩, xy⟩ : WV) (it.xs.map itv)) = (itemsTo (⟨cv x32.1, x32.2.1.xs, x32.2.2.1.toNat, x32.2.2.2.1⟩ : VV) x32.2.2.2.2 ((it.xs.map itv).drop zz.1) (cv zz.2.1) zz.2.2) ∧ chipOk (cv zz.2.1) = true ∧ Like (cv x32.1) (cv zz.2.1) ∧ NmOk (cv zz.2.1) zz.2.2 ∧ zz.2.2.length = x32.2.1.xs.length) (fun zz => it.xs.length - zz.1) (0, x32.1, x32.2.1.xs) ⟨Nat.zero_le _, by rw [batI, ← hp32b]; rfl, hk3, .rfl' _, hw3.nums, rfl⟩ (Sub.cons rfl (Sub.cons rfl (Sub.cons rfl (Sub.cons rfl (Sub.cons rfl (Sub.nil _)))))) (fun w hw => Keep.mem hw) ?_
   rintro ⟨j, d, zs⟩ ⟨hj1, hj2, hj3, hj4, hj5, hj6⟩
   dsimp only
   simp only at hj1 hj2 hj3 hj4 hj5 hj6
   refine cw_seq ?_
   refine cw_region ?_
   refine sq_r (ry_int rfl rfl rfl) ?_
   refine sq_nil ?_
   refine ex_then ?_
   refine cw_seq ?_
   refine cw_cond rfl (fun h3 => ?_) (fun h3 => ?_)
   ·
    try simp only [Z0, Z1, Z2, Z3, Z4, Z5, Z6, Z7, Z8, Z9] at h3
    obtain ⟨z, hz⟩ := get_some (xs := it.xs) (i := j) (by omega)
    have mbz : Mb z it := ⟨List.mem_of_getElem? hz⟩
    have hzi0 := hids z (List.mem_of_getElem? hz)
    obtain ⟨zi, hzi⟩ := get_some (xs := zs) (i := z.id.toNat) (by omega)
    have hitz : (it.xs.map itv)[j]? = Option.some (itv z) := by rw [List.getElem?_map, hz]; rfl
    have hst : (itemsTo (⟨cv x32.1, x32.2.1.xs, x32.2.2.1.toNat, x32.2.2.2.1⟩ : VV) x32.2.2.2.2 ((it.xs.map itv).drop j) (cv d) zs) = (if (itv z).2.length = 0 then (itemsTo (⟨cv x32.1, x32.2.1.xs, x32.2.2.1.toNat, x32.2.2.2.1⟩ : VV) x32.2.2.2.2 ((it.xs.map itv).drop (j + 1)) (cv d) (zs.set z.id.toNat 0)) else if (placeF (cv d) (x32.2.1.xs ++ zs) x32.2.2.2.2 (itPg (⟨cv x32.1, x32.2.1.xs, x32.2.2.1.toNat, x32.2.2.2.1⟩ : VV) (itv z))).2.2 ≠ 0 then ((placeF (cv d) (x32.2.1.xs ++ zs) x32.2.2.2.2 (itPg (⟨cv x32.1, x32.2.1.xs, x32.2.2.1.toNat, x32.2.2.2.1⟩ : VV) (itv z))).1, zs, (placeF (cv d) (x32.2.1.xs ++ zs) x32.2.2.2.2 (itPg (⟨cv x32.1, x32.2.1.xs, x32.2.2.1.toNat, x32.2.2.2.1⟩ : VV) (itv z))).2.2) else (itemsTo (⟨cv x32.1, x32.2.1.xs, x32.2.2.1.toNat, x32.2.2.2.1⟩ : VV) x32.2.2.2.2 ((it.xs.map itv).drop (j + 1)) (placeF (cv d) (x32.2.1.xs ++ zs) x32.2.2.2.2 (itPg (⟨cv x32.1, x32.2.1.xs, x32.2.2.1.toNat, x32.2.2.2.1⟩ : VV) (itv z))).1 (zs.set z.id.toNat (placeF (cv d) (x32.2.1.xs ++ zs) x32.2.2.2.2 (itPg (⟨cv x32.1, x32.2.1.xs, x32.2.2.1.toNat, x32.2.2.2.1⟩ : VV) (itv z))).2.1))) := by
     rw [drop_at hitz, itemsTo]; rfl
    have hfl : (flatI [x32.2.1, (⟨x41, zs⟩ : Sl Int)]) = x32.2.1.xs ++ zs := flatI_two _ _
    have hpv : pvv (⟨1, z.id, x32.2.2.1 + 1, z.body⟩ : Pge) = itPg (⟨cv x32.1, x32.2.1.xs, x32.2.2.1.toNat, x32.2.2.2.1⟩ : VV) (itv z) := by simp only [pvv, itPg, itv, hg1]
    have hPL : (placeF (cv d) (flatI [x32.2.1, (⟨x41, zs⟩ : Sl Int)]) x32.2.2.2.2 (pvv (⟨1, z.id, x32.2.2.1 + 1, z.body⟩ : Pge))) = (placeF (cv d) (x32.2.1.xs ++ zs) x32.2.2.2.2 (itPg (⟨cv x32.1, x32.2.1.xs, x32.2.2.1.toNat, x32.2.2.2.1⟩ : VV) (itv z))) := by rw [hfl, hpv]
    have hnmL : NmOk (cv d) (flatI [x32.2.1, (⟨x41, zs⟩ : Sl Int)]) := by rw [hfl]; exact ((show NmOk (cv x32.1) x32.2.1.xs from hw3.nums).like hj4).append hj5
    have hlenL : (flatI [x32.2.1, (⟨x41, zs⟩ : Sl Int)]).length ≤ 1000 := by rw [hfl, List.length_append]; omega
    refine cw_skip ?_
    refine ex_then ?_
    refine cw_seq ?_
    refine cw_block ?_
    refine cw_seq ?_
    refine cw_region ?_
    refine sq_r (ry_idxH rfl rfl j rfl (by omega)) ?_
    refine sq_r (ry_elemH rfl j hz rfl) ?_
    have mb47 : Mb z it := ⟨List.mem_of_getElem? hz⟩
    refine sq_allocA fun b11 => ?_
    refine sq_storeW rfl rfl ?_
    refine sq_nil ?_
    refine ex_then ?_
    refine cw_seq ?_
    refine cw_seq ?_
    refine cw_region ?_
    refine sq_r (ry_field (o' := 1) rfl rfl) ?_
    refine sq_r (ry_cellc rfl) ?_
    refine sq_r (ry_lenH rfl) ?_
    refine sq_r (ry_int rfl rfl rfl) ?_
    refine sq_nil ?_
    refine ex_then ?_
    refine cw_cond rfl (fun h4 => ?_) (fun h4 => ?_)
    ·
     try simp only [Z0, Z1, Z2, Z3, Z4, Z5, Z6, Z7, Z8, Z9] at h4
     have h4d : (itv z).2.length = 0 := by simp only [itv]; omega
     refine cw_seq ?_
     refine cw_region ?_
     refine sq_r (ry_move rfl) ?_
     refine sq_r (ry_field (o' := 0) rfl rfl) ?_
     refine sq_r (ry_cellc rfl) ?_
     refine sq_r (ry_idxH rfl rfl z.id.toNat (by omega) (by omega)) ?_
     refine sq_storeS (s := x41) (n := 1) (k := z.id.toNat) (j := 0) (a := zi) (a' := 0) (xs := zs) (enc := iec) (c := 1) (v := .int .i64 0) (by kernel_rfl) rfl rfl rfl hzi (by simp [Value.cells, Value.oneCell']) rfl (by decide) (by rfl) ?_
     refine sq_nil ?_
     refine ex_then ?_
     refine cw_exit ?_
     refine ex_pass_exit ?_
     refine ex_block_hit ?_
     refine ex_then ?_
     refine cw_region ?_
     refine sq_r (ry_add rfl rfl (by omega)) ?_
     refine sq_r (ry_move rfl) ?_
     refine sq_nil ?_
     exact ex_again (x := (j, d, zs)) (j + 1, d, zs.set z.id.toNat 0) ⟨by simp only; omega, by rw [hj2, hst, if_pos h4d], hj3, hj4, fun y hy => (List.mem_or_eq_of_mem_set hy).elim (hj5 y) fun hy => .inl hy, by rw [List.length_set]; exact hj6⟩ (by simp only; omega) (Sub.cons rfl (Sub.cons rfl (Sub.cons rfl (Sub.cons rfl (Sub.cons rfl (Sub.nil _)))))) (fun w hw => Keep.mem hw)
    ·
     try simp only [Z0, Z1, Z2, Z3, Z4, Z5, Z6, Z7, Z8, Z9] at h4
     have h4d : ¬ (itv z).2.length = 0 := by simp only [itv]; omega
     refine cw_skip ?_
     refine ex_then ?_
     refine cw_seq ?_
     refine cw_lin [18, 19] [[], [], [], [], [], [], [], [], [], [], [], [], [], [], [], [], [], [], [], [18], [18, 19], [18, 19], [18, 19], [18, 19], [18, 19]] [0, 1, 2, 3, 4, 5, 6, 7, 8, 9, 10, 11, 12, 13, 14, 15, 16, 17, 18, 19, 20, 21, 22, 23, 24] [wtA k x32.2.1 x32.2.2.1 141, blk b11 (icells z) 102] (fun _ hw => (wtA_of (Keep.mem hw : Mem w0 [blk k (wtcells (⟨⟨d, x32.2.1, x32.2.2.1, x32.2.2.2.1⟩, x32.2.2.2.2⟩ : Wtr)) 141, blk b11 (icells z) 102] _))) (by kernel_rfl) (by kernel_rfl) ?_
     refine ln_r rfl (ry_move rfl) ?_
     refine ln_r rfl (ry_field (o' := 0) rfl rfl) ?_
     refine ln_r rfl (ry_cellc rfl) ?_
     refine ln_r rfl (ry_move rfl) ?_
     refine ln_r rfl (ry_nilp rfl) ?_
     refine ln_r rfl (ry_field (o' := 0) rfl rfl) ?_
     refine ln_r rfl (ry_field (o' := 7) rfl rfl) ?_
     refine ln_r rfl (ry_genA (a := x32.2.1) (g := x32.2.2.1) (T := 141) rfl inferInstance) ?_
     refine ln_r rfl (Ry.to (v' := .int .u64 ((x32.2.2.1 + 1).toNat : Int)) (ry_addn (p := x32.2.2.1.toNat) (q := 1) rfl rfl rfl rfl (by simp only [nb]; omega)) (by rw [hg1])) ?_
     refine ln_r rfl (ry_field (o' := 1) rfl rfl) ?_
     refine ln_r rfl (ry_cellc rfl) ?_
     refine ln_r rfl (ry_build (v := .agg (pgcells (⟨1, z.id, x32.2.2.1 + 1, z.body⟩ : Pge))) rfl (ipg_build z.id (x32.2.2.1 + 1) z.body)) ?_
     refine ln_r rfl (ry_move rfl) ?_
     refine ln_r rfl (ry_nilp rfl) ?_
     refine ln_r rfl (ry_field (o' := 0) rfl rfl) ?_
     refine ln_r rfl (ry_field (o' := 6) rfl rfl) ?_
     refine ln_r rfl (ry_atA (a := x32.2.1) (g := x32.2.2.1) (T := 141) rfl inferInstance) ?_
     refine ln_r rfl (ry_move rfl) ?_
     refine ln_st rfl (st_buildSlice (enc := scells) (vals := [x32.2.1.sv.val, x41.val]) [x32.2.1, (⟨x41, zs⟩ : Sl Int)] rfl (by simp only [List.map_cons, List.map_nil, Sv.cells_val]; rfl) rfl (by decide) (by decide) fun b75 => ⟨fun _ hw => (wtA_of (Keep.mem hw : Mem w0 [blk k (wtcells (⟨⟨d, x32.2.1, x32.2.2.1, x32.2.2.2.1⟩, x32.2.2.2.2⟩ : Wtr)) 141, blk b11 (icells z) 102] _)), ?_⟩)
     refine ln_st rfl (st_callC (hc := wplace_i (q := (⟨1, z.id, x32.2.2.1 + 1, z.body⟩ : Pge)) (l := (⟨⟨false, b75, 0, 2, 2, none⟩, [x32.2.1, (⟨x41, zs⟩ : Sl Int)]⟩ : Sl (Sl Int)))) rfl ⟨hj3, by rw [hj4.len]; omega, hnmL, hlenL⟩ fun x76 hp76 => ⟨fun _ hw => (wtA_of (Keep.mem hw : Mem w0 [blk k (wtcells (⟨⟨x76, x32.2.1, x32.2.2.1, x32.2.2.2.1⟩, x32.2.2.2.2⟩ : Wtr)) 141, blk b11 (icells z) 102] _)), ?_⟩)
     refine ln_r rfl (ry_move rfl) ?_
     refine ln_r rfl (ry_extract (v := .int .i64 ((placeF (cv d) (flatI [x32.2.1, (⟨x41, zs⟩ : Sl Int)]) x32.2.2.2.2 (pvv (⟨1, z.id, x32.2.2.1 + 1, z.body⟩ : Pge))).2.1)) rfl rfl) ?_
     refine ln_r rfl (ry_extract (v := .int .i64 ((placeF (cv d) (flatI [x32.2.1, (⟨x41, zs⟩ : Sl Int)]) x32.2.2.2.2 (pvv (⟨1, z.id, x32.2.2.1 + 1, z.body⟩ : Pge))).2.2)) rfl rfl) ?_
     refine ln_r rfl (ry_assign rfl) ?_
     refine ln_r rfl (ry_assign rfl) ?_
     refine ln_nil ?_
     refine ex_then ?_
     refine cw_seq ?_
     refine cw_seq ?_
     refine cw_region ?_
     refine sq_r (ry_move rfl) ?_
     refine sq_r (ry_int rfl rfl rfl) ?_
     refine sq_nil ?_
     refine ex_then ?_
     refine cw_cond rfl (fun h5 => ?_) (fun h5 => ?_)
     ·
      try simp only [Z0, Z1, Z2, Z3, Z4, Z5, Z6, Z7, Z8, Z9] at h5
      have h5d : (placeF (cv d) (x32.2.1.xs ++ zs) x32.2.2.2.2 (itPg (⟨cv x32.1, x32.2.1.xs, x32.2.2.1.toNat, x32.2.2.2.1⟩ : VV) (itv z))).2.2 ≠ 0 := by rw [← hPL]; exact h5
      have hE0 : (batI (⟨⟨cv xc, xa.xs, xg.toNat, xl⟩, xy⟩ : WV) (it.xs.map itv)) = ((placeF (cv d) (x32.2.1.xs ++ zs) x32.2.2.2.2 (itPg (⟨cv x32.1, x32.2.1.xs, x32.2.2.1.toNat, x32.2.2.2.1⟩ : VV) (itv z))).1, zs, (placeF (cv d) (x32.2.1.xs ++ zs) x32.2.2.2.2 (itPg (⟨cv x32.1, x32.2.1.xs, x32.2.2.1.toNat, x32.2.2.2.1⟩ : VV) (itv z))).2.2) := by rw [hj2, hst, if_neg h4d, if_pos h5d]
      have hE : (batchF (⟨⟨cv xc, xa.xs, xg.toNat, xl⟩, xy⟩ : WV) (it.xs.map itv)) = ((⟨(⟨cv x32.1, x32.2.1.xs, x32.2.2.1.toNat, x32.2.2.2.1⟩ : VV), x32.2.2.2.2⟩ : WV).on (placeF (cv d) (x32.2.1.xs ++ zs) x32.2.2.2.2 (itPg (⟨cv x32.1, x32.2.1.xs, x32.2.2.1.toNat, x32.2.2.2.1⟩ : VV) (itv z))).1, (placeF (cv d) (x32.2.1.xs ++ zs) x32.2.2.2.2 (itPg (⟨cv x32.1, x32.2.1.xs, x32.2.2.1.toNat, x32.2.2.2.1⟩ : VV) (itv z))).2.2) := by rw [batchF, if_neg h2d, hE0, ← hp32b]; exact if_pos h5d
      refine cw_seq ?_
      refine cw_region ?_
      refine sq_r (ry_move rfl) ?_
      refine sq_r (ry_assign rfl) ?_
      refine sq_nil ?_
      refine ex_then ?_
      refine cw_ret ?_
      refine ex_pass_ret ?_
      refine ex_block_ret ?_
      refine ex_pass_ret ?_
      refine ex_pass_ret ?_
      refine ex_block_ret ?_
      refine ex_pass_ret ?_
      refine ex_ret (.inl rfl) (res_1 rfl (rv_tmp rfl)) (fun w1 hw => ?_)
      exact ⟨(x76, x32.2.1, x32.2.2.1, x32.2.2.2.1, x32.2.2.2.2), by rw [hE, hPL], by rw [hE, hp76, hPL]; rfl, Keep.mem hw⟩
     ·
      try simp only [Z0, Z1, Z2, Z3, Z4, Z5, Z6, Z7, Z8, Z9] at h5
      have h5d : (placeF (cv d) (x32.2.1.xs ++ zs) x32.2.2.2.2 (itPg (⟨cv x32.1, x32.2.1.xs, x32.2.2.1.toNat, x32.2.2.2.1⟩ : VV) (itv z))).2.2 = 0 := by rw [← hPL]; exact h5
      obtain ⟨p1, p2, p3, p4⟩ := placeF_ok (fl := x32.2.1.xs ++ zs) (by_ := x32.2.2.2.2) (p := itPg (⟨cv x32.1, x32.2.1.xs, x32.2.2.1.toNat, x32.2.2.2.1⟩ : VV) (itv z)) hj3 (by rw [hj4.len]; omega)
      have p5 := p4 h5d
      rw [← hPL, ← hp76] at p1 p2
      refine cw_skip ?_
      refine ex_then ?_
      refine cw_region ?_
      refine sq_r (ry_move rfl) ?_
      refine sq_r (ry_field (o' := 0) rfl rfl) ?_
      refine sq_r (ry_cellc rfl) ?_
      refine sq_r (ry_move rfl) ?_
      refine sq_r (ry_idxH rfl rfl z.id.toNat (by omega) (by omega)) ?_
      refine sq_storeS (s := x41) (n := 1) (k := z.id.toNat) (j := 0) (a := zi) (a' := (placeF (cv d) (flatI [x32.2.1, (⟨x41, zs⟩ : Sl Int)]) x32.2.2.2.2 (pvv (⟨1, z.id, x32.2.2.1 + 1, z.body⟩ : Pge))).2.1) (xs := zs) (enc := iec) (c := 1) (v := .int .i64 (placeF (cv d) (flatI [x32.2.1, (⟨x41, zs⟩ : Sl Int)]) x32.2.2.2.2 (pvv (⟨1, z.id, x32.2.2.1 + 1, z.body⟩ : Pge))).2.1) (by kernel_rfl) rfl rfl rfl hzi (by simp [Value.cells, Value.oneCell']) rfl (by decide) (by rfl) ?_
      refine sq_nil ?_
      refine ex_block ?_
      refine ex_then ?_
      refine cw_region ?_
      refine sq_r (ry_add rfl rfl (by omega)) ?_
      refine sq_r (ry_move rfl) ?_
      refine sq_nil ?_
      exact ex_again (x := (j, d, zs)) (j + 1, x76, zs.set z.id.toNat (placeF (cv d) (flatI [x32.2.1, (⟨x41, zs⟩ : Sl Int)]) x32.2.2.2.2 (pvv (⟨1, z.id, x32.2.2.1 + 1, z.body⟩ : Pge))).2.1) ⟨by simp only; omega, by rw [hj2, hst, if_neg h4d, if_neg (fun h => h h5d), hp76, hPL], p1, hj4.trans p2, fun y hy => by
                        rw [p2.pages, p2.len]
                        exact (List.mem_or_eq_of_mem_set hy).elim (hj5 y) fun hy => hy ▸ .inr (by rw [hPL]; exact p5), by rw [List.length_set]; exact hj6⟩ (by simp only; omega) (Sub.cons rfl (Sub.cons rfl (Sub.cons rfl (Sub.cons rfl (Sub.cons rfl (Sub.nil _)))))) (fun w hw => Keep.mem hw)
   ·
    try simp only [Z0, Z1, Z2, Z3, Z4, Z5, Z6, Z7, Z8, Z9] at h3
    obtain rfl : j = it.xs.length := by omega
    have hE0 : (batI (⟨⟨cv xc, xa.xs, xg.toNat, xl⟩, xy⟩ : WV) (it.xs.map itv)) = (cv d, zs, 0) := by rw [hj2, ← hil, List.drop_length]; rfl
    have hE : (batchF (⟨⟨cv xc, xa.xs, xg.toNat, xl⟩, xy⟩ : WV) (it.xs.map itv)) = writeF ((⟨(⟨cv x32.1, x32.2.1.xs, x32.2.2.1.toNat, x32.2.2.2.1⟩ : VV), x32.2.2.2.2⟩ : WV).on (cv d)) zs := by rw [batchF, if_neg h2d, hE0, ← hp32b]; simp only [ne_eq, not_true_eq_false, if_false]
    have hww : WrOk ((⟨(⟨cv x32.1, x32.2.1.xs, x32.2.2.1.toNat, x32.2.2.2.1⟩ : VV), x32.2.2.2.2⟩ : WV).on (cv d)) := hw3.on hj3 hj4
    refine cw_exit ?_
    refine ex_pass_exit ?_
    refine ex_pass_exit ?_
    refine ex_block_hit ?_
    refine ex_then ?_
    refine cw_seq ?_
    refine cw_region ?_
    refine sq_r (ry_move rfl) ?_
    refine sq_r (ry_move rfl) ?_
    refine sq_callC rfl hww fun x90 hp90 => ?_
    refine sq_r (ry_assign rfl) ?_
    refine sq_nil ?_
    refine ex_then ?_
    refine cw_ret ?_
    refine ex_ret (.inl rfl) (res_1 rfl (rv_tmp rfl)) (fun w1 hw => ?_)
    exact ⟨(x90.1, x90.2.1, x90.2.2.1, x90.2.2.2, x32.2.2.2.2), by rw [hE]; rfl, by rw [hE]; exact hp90, Keep.mem hw⟩
instance wbatch_i {w0 : World} {L R1 R2 L2 : List Ent} {i0 i1 i2 : Nat} {k : Nat} {xc : Cp} {xa : Sl Int} {xg : UInt64} {xl : Int} {xy : Bool} {it : Sl It} [q0 : Has L k (wtcells (⟨⟨xc, xa, xg, xl⟩, xy⟩ : Wtr)) 141 i0] [d0 : DelI L i0 R1] [q1 : At R1 (fz xc) i1] [d1 : DelI R1 i1 R2] [q2 : At R2 (fz xa) i2] [d2 : DelI R2 i2 L2] [hit : HdD w0 L2 it] : FnC Tryz.prog 88 w0 L [.pointer (some ⟨k, 0, none⟩), it.sv.val] (Cp × Sl Int × UInt64 × Int × Bool) (fun zz => .int .i64 ((batchF (⟨⟨cv xc, xa.xs, xg.toNat, xl⟩, xy⟩ : WV) (it.xs.map itv)).2)) (fun zz => blk k (wtcells (⟨⟨zz.1, zz.2.1, zz.2.2.1, zz.2.2.2.1⟩, zz.2.2.2.2⟩ : Wtr)) 141 :: fz zz.1 :: fz zz.2.1 :: L2) (fun zz => (⟨⟨cv zz.1, zz.2.1.xs, zz.2.2.1.toNat, zz.2.2.2.1⟩, zz.2.2.2.2⟩ : WV) = (batchF (⟨⟨cv xc, xa.xs, xg.toNat, xl⟩, xy⟩ : WV) (it.xs.map itv)).1) (WrOk (⟨⟨cv xc, xa.xs, xg.toNat, xl⟩, xy⟩ : WV) ∧ it.xs.length ≤ 1000000 ∧ ∀ x ∈ it.xs, 0 ≤ x.id ∧ x.id < xa.xs.length ∧ x.id < 64) := ⟨fun hp w hw => wbatch_c w0 w L2 k xc xa xg xl xy it (mem_three q0.h d0.h q1.h d1.h q2.h d2.h hw) hp⟩

end Go.Proofs.YtaipiecplldinaaGreat

/- A writer: a volume begun. -/
namespace Go.Proofs.YtaipiecplldinaaGreat
open Go.Eng Go.Kb
open Go.RowKit
theorem wbegin_c (w0 w : World) (L : List Ent) (k : Nat) (xc : Cp) (xa : Sl Int) (xg : UInt64) (xl : Int) (xy : Bool) (n : Int)  (hw : Mem w0 (blk k (wtcells (⟨⟨xc, xa, xg, xl⟩, xy⟩ : Wtr)) 141 :: fz xc :: fz xa :: L) w) (hpre : WrOk (⟨⟨cv xc, xa.xs, xg.toNat, xl⟩, xy⟩ : WV) ∧ 0 ≤ n ∧ n ≤ 64) : Calls Tryz.prog 85 #[.pointer (some ⟨k, 0, none⟩), .int .i64 n] w fun e w' => ∃ zz : Cp × Sl Int × UInt64 × Int, e = .returned (.int .i64 ((beginF (⟨⟨cv xc, xa.xs, xg.toNat, xl⟩, xy⟩ : WV) n.toNat).2)) ∧ ((⟨⟨cv zz.1, zz.2.1.xs, zz.2.2.1.toNat, zz.2.2.2⟩, xy⟩ : WV) = (beginF (⟨⟨cv xc, xa.xs, xg.toNat, xl⟩, xy⟩ : WV) n.toNat).1) ∧ Mem w0 (blk k (wtcells (⟨⟨zz.1, zz.2.1, zz.2.2.1, zz.2.2.2⟩, xy⟩ : Wtr)) 141 :: fz zz.1 :: fz zz.2.1 :: L) w' := by
 obtain ⟨hwx, hn0, hn1⟩ := hpre
 have hk : chipOk (cv xc) = true := hwx.chip
 have h4b : 4 ≤ (cv xc).blocks.length := hwx.len'
 have hd := chip_dims hk
 have hbl : (cv xc).blocks.length = xc.blocks.xs.length := bvs_length _
 refine calls_in (args := [_, _]) Tryz.func85 rfl Tryz.ntmps85 rfl hw ?_
 change Cw _ _ _ _ _ [(0, .pointer (some ⟨k, 0, none⟩)), (1, .int .i64 n)] (blk k (wtcells (⟨⟨xc, xa, xg, xl⟩, xy⟩ : Wtr)) 141 :: fz xc :: fz xa :: L)
 refine cw_seq ?_
 refine cw_region ?_
 refine sq_r (ry_assign rfl) ?_
 refine sq_nil ?_
 refine ex_then ?_
 refine cw_seq ?_
 refine cw_seq ?_
 refine cw_region ?_
 refine sq_r (ry_move rfl) ?_
 refine sq_r (ry_nilp rfl) ?_
 refine sq_r (ry_field (o' := 0) rfl rfl) ?_
 refine sq_r (ry_field (o' := 0) rfl rfl) ?_
 refine sq_r (ry_field (o' := 2) rfl rfl) ?_
 refine sq_r (Ry.to (v' := xc.blocks.sv.val) (ry_cellc rfl) rfl) ?_
 refine sq_r (ry_lenH rfl) ?_
 refine sq_r (ry_move rfl) ?_
 refine sq_nil ?_
 refine ex_then ?_
 refine cw_block ?_
 refine cw_loop (X := Nat × Cp) (fun zz => [(18, .int .i64 (zz.1 : Nat)), (0, .pointer (some ⟨k, 0, none⟩)), (1, .int .i64 n), (17, .int .i64 (xc.blocks.xs.length : Nat))]) (fun zz => blk k (wtcells (⟨⟨zz.2, xa, xg, xl⟩, xy⟩ : Wtr)) 141 :: fz zz.2 :: fz xa :: L) (fun zz => zz.1 ≤ (cv xc).blocks.length ∧ (wipeTo (cv xc).blocks.length 0 (cv xc)) = wipeTo ((cv xc).blocks.length - zz.1) (zz.1 : Int) (cv zz.2) ∧ chipOk (cv zz.2) = true ∧ Like (cv xc) (cv zz.2)) (fun zz => (cv xc).blocks.length - zz.1) (0, xc) ⟨Nat.zero_le _, rfl, hk, .rfl' _⟩ (Sub.cons rfl (Sub.cons rfl (Sub.cons rfl (Sub.cons rfl (Sub.nil _))))) (fun w hw => Keep.mem hw) ?_
 rintro ⟨i, d⟩ ⟨hi1, hi2, hi3, hi4⟩
 dsimp only
 simp only at hi1 hi2 hi3 hi4
 have hl4 := hi4.len
 have hid : (⟨i, d⟩ : Nat × Cp) = (i, d) := rfl
 refine cw_seq ?_
 refine cw_region ?_
 refine sq_r (ry_int rfl rfl rfl) ?_
 refine sq_nil ?_
 refine ex_then ?_
 refine cw_seq ?_
 refine cw_cond rfl (fun h0 => ?_) (fun h0 => ?_)
 ·
  try simp only [Z0, Z1, Z2, Z3, Z4, Z5, Z6, Z7, Z8, Z9] at h0
  have hst : wipeTo ((cv xc).blocks.length - i) (i : Int) (cv d) = (if staleF (cv d) i = false then wipeTo ((cv xc).blocks.length - (i + 1)) ((i : Int) + 1) (cv d) else if eraseE (cv d) i ≠ 0 ∧ eraseE (cv d) i ≠ 9 then (erasW (cv d) i, eraseE (cv d) i) else wipeTo ((cv xc).blocks.length - (i + 1)) ((i : Int) + 1) (erasW (cv d) i)) := by
   rw [show (cv xc).blocks.length - i = ((cv xc).blocks.length - (i + 1)) + 1 by omega, wipeTo]
  refine cw_skip ?_
  refine ex_then ?_
  refine cw_seq ?_
  refine cw_block ?_
  refine cw_seq ?_
  refine cw_region ?_
  refine sq_r (ry_move rfl) ?_
  refine sq_r (ry_assign rfl) ?_
  refine sq_nil ?_
  refine ex_then ?_
  refine cw_seq ?_
  refine cw_seq ?_
  refine cw_region ?_
  refine sq_r (ry_move rfl) ?_
  refine sq_r (ry_move rfl) ?_
  refine sq_y (yl_callC rfl ⟨hi3, by omega, by omega⟩) ?_
  refine sq_r (ry_not rfl) ?_
  refine sq_nil ?_
  refine ex_then ?_
  refine cw_cond rfl (fun h1 => ?_) (fun h1 => ?_)
  ·
   try simp only [Z0, Z1, Z2, Z3, Z4, Z5, Z6, Z7, Z8, Z9] at h1
   refine cw_exit ?_
   refine ex_pass_exit ?_
   refine ex_block_hit ?_
   refine ex_then ?_
   refine cw_region ?_
   refine sq_r (ry_add rfl rfl (by omega)) ?_
   refine sq_r (ry_move rfl) ?_
   refine sq_nil ?_
   exact ex_again (x := (i, d)) (i + 1, d) ⟨by simp only; omega, by rw [hi2, hst, if_pos h1]; rfl, hi3, hi4⟩ (by simp only; omega) (Sub.cons rfl (Sub.cons rfl (Sub.cons rfl (Sub.cons rfl (Sub.nil _))))) (fun w hw => Keep.mem hw)
  ·
   try simp only [Z0, Z1, Z2, Z3, Z4, Z5, Z6, Z7, Z8, Z9] at h1
   have h1d : ¬ staleF (cv d) i = false := by rw [h1]; simp
   refine cw_skip ?_
   refine ex_then ?_
   refine cw_seq ?_
   refine cw_region ?_
   refine sq_r (ry_move rfl) ?_
   refine sq_r (ry_move rfl) ?_
   refine sq_callC rfl ⟨hi3, by omega, by omega⟩ fun x27 hp27 => ?_
   refine sq_r (ry_assign rfl) ?_
   refine sq_nil ?_
   refine ex_then ?_
   refine cw_seq ?_
   refine cw_region ?_
   refine sq_r (ry_move rfl) ?_
   refine sq_r (ry_int rfl rfl rfl) ?_
   refine sq_r (ry_move rfl) ?_
   refine sq_gt rfl rfl rfl (fun hg => (Ry.yl (ry_move rfl))) ?_
   refine sq_gt rfl rfl rfl (fun hg => (Ry.yl (ry_int (ev_c hg rfl) rfl rfl))) ?_
   refine sq_r (ry_and rfl rfl rfl) ?_
   refine sq_nil ?_
   refine ex_then ?_
   refine cw_cond rfl (fun h2 => ?_) (fun h2 => ?_)
   ·
    try simp only [Z0, Z1, Z2, Z3, Z4, Z5, Z6, Z7, Z8, Z9] at h2
    have hE : (beginF (⟨⟨cv xc, xa.xs, xg.toNat, xl⟩, xy⟩ : WV) n.toNat) = ((⟨⟨cv xc, xa.xs, xg.toNat, xl⟩, xy⟩ : WV).on (erasW (cv d) i), eraseE (cv d) i) := by
     have hz : (wipeTo (cv xc).blocks.length 0 (cv xc)) = (erasW (cv d) i, eraseE (cv d) i) := by rw [hi2, hst, if_neg h1d, if_pos h2]
     rw [beginF, if_pos (show (wipeTo (cv xc).blocks.length 0 (cv xc)).2 ≠ 0 by rw [hz]; exact h2.1), hz]
    refine cw_seq ?_
    refine cw_region ?_
    refine sq_r (ry_move rfl) ?_
    refine sq_r (ry_assign rfl) ?_
    refine sq_nil ?_
    refine ex_then ?_
    refine cw_ret ?_
    refine ex_block_ret ?_
    refine ex_pass_ret ?_
    refine ex_pass_ret ?_
    refine ex_block_ret ?_
    refine ex_pass_ret ?_
    refine ex_ret (.inl rfl) (res_1 rfl (rv_tmp rfl)) (fun w1 hw => ?_)
    exact ⟨(x27, xa, xg, xl), by rw [hE], by rw [hE, hp27]; rfl, Keep.mem hw⟩
   ·
    try simp only [Z0, Z1, Z2, Z3, Z4, Z5, Z6, Z7, Z8, Z9] at h2
    have h2d : eraseE (cv d) i ≠ 0 → eraseE (cv d) i ≠ 9 → False := fun ga gb => by omega
    refine cw_skip ?_
    refine ex_block ?_
    refine ex_then ?_
    refine cw_region ?_
    refine sq_r (ry_add rfl rfl (by omega)) ?_
    refine sq_r (ry_move rfl) ?_
    refine sq_nil ?_
    exact ex_again (x := (i, d)) (i + 1, x27) ⟨by simp only; omega, by rw [hi2, hst, if_neg h1d, if_neg (fun h => h2d h.1 h.2), hp27]; rfl, by rw [hp27]; exact erasW_ok hi3 _, by rw [hp27]; exact hi4.trans (erasW_like _ _)⟩ (by simp only; omega) (Sub.cons rfl (Sub.cons rfl (Sub.cons rfl (Sub.cons rfl (Sub.nil _))))) (fun w hw => Keep.mem hw)
 ·
  try simp only [Z0, Z1, Z2, Z3, Z4, Z5, Z6, Z7, Z8, Z9] at h0
  obtain rfl : i = (cv xc).blocks.length := by omega
  have hz : (wipeTo (cv xc).blocks.length 0 (cv xc)) = (cv d, 0) := by rw [hi2, Nat.sub_self]; rfl
  refine cw_exit ?_
  refine ex_pass_exit ?_
  refine ex_pass_exit ?_
  refine ex_block_hit ?_
  refine ex_then ?_
  refine cw_seq ?_
  refine cw_seq ?_
  refine cw_region ?_
  refine sq_r (ry_move rfl) ?_
  refine sq_nil ?_
  refine ex_then ?_
  refine cw_block ?_
  refine cw_loop (X := Nat × Cp) (fun zz => [(36, .int .i64 (zz.1 : Nat)), (0, .pointer (some ⟨k, 0, none⟩)), (1, .int .i64 n)]) (fun zz => blk k (wtcells (⟨⟨zz.2, xa, xg, xl⟩, xy⟩ : Wtr)) 141 :: fz zz.2 :: fz xa :: L) (fun zz => zz.1 ≤ 2 ∧ (beginF (⟨⟨cv xc, xa.xs, xg.toNat, xl⟩, xy⟩ : WV) n.toNat) = rootsTo (2 - zz.1) (zz.1 : Int) ((⟨⟨cv xc, xa.xs, xg.toNat, xl⟩, xy⟩ : WV).on (cv zz.2)) n.toNat ∧ chipOk (cv zz.2) = true ∧ Like (cv xc) (cv zz.2)) (fun zz => 2 - zz.1) (0, d) ⟨Nat.zero_le _, by rw [beginF, if_neg (show ¬ (wipeTo (cv xc).blocks.length 0 (cv xc)).2 ≠ 0 by rw [hz]; simp), show (wipeTo (cv xc).blocks.length 0 (cv xc)).1 = cv d by rw [hz]]; rfl, hi3, hi4⟩ (Sub.cons rfl (Sub.cons rfl (Sub.cons rfl (Sub.nil _)))) (fun w hw => Keep.mem hw) ?_
  rintro ⟨j, e⟩ ⟨hj1, hj2, hj3, hj4⟩
  dsimp only
  simp only at hj1 hj2 hj3 hj4
  have hl4 := hj4.len
  have hgl := greatL_lt (blkAt (cv e) (1 - (j : Int))).pages
  change greatF (cv e) (1 - (j : Int)) < _ at hgl
  have hfl : firstG (cv e) j < 281474976710656 + 2 ∨ ¬ j < 2 := by
   by_cases hj9 : j < 2
   ·
    left; rw [firstG]; omega
   ·
    exact .inr hj9
  refine cw_seq ?_
  refine cw_region ?_
  refine sq_r (ry_int rfl rfl rfl) ?_
  refine sq_nil ?_
  refine ex_then ?_
  refine cw_seq ?_
  refine cw_cond rfl (fun h3 => ?_) (fun h3 => ?_)
  ·
   try simp only [Z0, Z1, Z2, Z3, Z4, Z5, Z6, Z7, Z8, Z9] at h3
   have hfl2 : firstG (cv e) j < 281474976710656 + 2 := hfl.resolve_right (fun h => h (by omega))
   have hfg : (UInt64.ofNat (firstG (cv e) j)).toNat = firstG (cv e) j := by rw [UInt64.toNat_ofNat']; omega
   refine cw_skip ?_
   refine ex_then ?_
   refine cw_seq ?_
   refine cw_block ?_
   refine cw_seq ?_
   refine cw_region ?_
   refine sq_r (ry_move rfl) ?_
   refine sq_r (ry_assign rfl) ?_
   refine sq_nil ?_
   refine ex_then ?_
   refine cw_seq ?_
   refine cw_linE [4, 6, 7, 2004, 2006] [[], [], [], [], [], [4], [], [4, 6]] [0, 1, 2, 3, 4, 5, 6, 7] [blk k (wtcells (⟨⟨e, xa, xg, xl⟩, xy⟩ : Wtr)) 141, fz e] [(4, bsM iec 1 n.toNat (List.replicate n.toNat 0)), (6, alM Tryz.prog 147)] (by kernel_rfl) (fun _ hw => Keep.mem hw) (by kernel_rfl) (by kernel_rfl) ?_
   refine ln_r rfl (ry_move rfl) ?_
   refine ln_r rfl (ry_move rfl) ?_
   refine ln_y rfl (yl_callC rfl ⟨hj3, by omega, by omega⟩) ?_
   refine ln_r rfl (ry_move rfl) ?_
   refine ln_mk (m := bsM iec 1 n.toNat (List.replicate n.toNat 0)) rfl rfl (makes_ms (enc := iec) (c := 1) (n := n.toNat) 0 rfl rfl rfl (by omega) (by omega) (by omega) (by omega)) (Cert.one (i := 6) rfl rfl rfl makes_al (Cert.none rfl)) fun b43 => ?_
   change Ln _ _ _ _ _ _ _ _ (putE _ _ (Sv.val ⟨false, b43, 0, n.toNat, n.toNat, none⟩)) (own iec 1 ⟨false, b43, 0, n.toNat, n.toNat, none⟩ (List.replicate n.toNat 0) :: _) _
   refine ln_r rfl (ry_build (v := .agg (rtcells (⟨UInt64.ofNat (firstG (cv e) j), ⟨⟨false, b43, 0, n.toNat, n.toNat, none⟩, (List.replicate n.toNat 0)⟩⟩ : Rts))) rfl (by rw [show (.int .u64 ((firstG (cv e) j : Nat) : Int) : Value) = .int .u64 ((UInt64.ofNat (firstG (cv e) j)).toNat : Int) by rw [hfg]]; exact rts_build _ _ _)) ?_
   refine ln_mk (m := alM Tryz.prog 147) rfl rfl makes_al (Cert.none rfl) fun b8 => ?_
   change Ln _ _ _ _ _ _ _ _ (putE _ _ (.pointer (some ⟨b8, 0, none⟩))) (blk b8 (rtcells zRts) 147 :: _) _
   refine ln_st rfl (st_storeW rfl rfl ⟨fun _ hw => Keep.mem hw, ?_⟩)
   refine ln_nil ?_
   refine ex_then ?_
   refine cw_seq ?_
   have hrv : rvv (⟨UInt64.ofNat (firstG (cv e) j), ⟨⟨false, b43, 0, n.toNat, n.toNat, none⟩, (List.replicate n.toNat 0)⟩⟩ : Rts) = ⟨firstG (cv e) j, (List.replicate n.toNat 0)⟩ := by simp only [rvv, hfg]
   have hrp : rootP (cv e) j n.toNat = (rputF (rvv (⟨UInt64.ofNat (firstG (cv e) j), ⟨⟨false, b43, 0, n.toNat, n.toNat, none⟩, (List.replicate n.toNat 0)⟩⟩ : Rts)) e.size) := by rw [hrv]; rfl
   have hjj : 2 - j = (2 - (j + 1)) + 1 := by omega
   have hst : (rootsTo (2 - j) (j : Int) ((⟨⟨cv xc, xa.xs, xg.toNat, xl⟩, xy⟩ : WV).on (cv e)) n.toNat) = (if (rootP (cv e) j n.toNat).2 ≠ 0 ∨ freeF (cv e) j = 0 then rootsTo (2 - (j + 1)) ((j : Int) + 1) ((⟨⟨cv xc, xa.xs, xg.toNat, xl⟩, xy⟩ : WV).on (cv e)) n.toNat else if (progWE (cv e) j (rootP (cv e) j n.toNat).1) = 0 then ((⟨newVol (progW (cv e) j (rootP (cv e) j n.toNat).1) j n.toNat (firstG (cv e) j), xy⟩ : WV), (0 : Int)) else if (progWE (cv e) j (rootP (cv e) j n.toNat).1) ≠ 9 then ((⟨⟨cv xc, xa.xs, xg.toNat, xl⟩, xy⟩ : WV).on (progW (cv e) j (rootP (cv e) j n.toNat).1), (progWE (cv e) j (rootP (cv e) j n.toNat).1)) else rootsTo (2 - (j + 1)) ((j : Int) + 1) ((⟨⟨cv xc, xa.xs, xg.toNat, xl⟩, xy⟩ : WV).on (progW (cv e) j (rootP (cv e) j n.toNat).1)) n.toNat) := by
    rw [hjj, rootsTo]
    rfl
   rw [hrp] at hst
   refine cw_lin [7] [[], [], [], [], [], [], [], [], [7], [7], [7], [7], [7]] [0, 1, 2, 3, 4, 5, 6, 7, 8, 9, 10, 11, 12] [blk k (wtcells (⟨⟨e, xa, xg, xl⟩, xy⟩ : Wtr)) 141, fz e, blk b8 (rtcells (⟨UInt64.ofNat (firstG (cv e) j), ⟨⟨false, b43, 0, n.toNat, n.toNat, none⟩, (List.replicate n.toNat 0)⟩⟩ : Rts)) 147] (fun _ hw => Keep.mem hw) (by kernel_rfl) (by kernel_rfl) ?_
   refine ln_r rfl (ry_whole rfl) ?_
   refine ln_r rfl (ry_move rfl) ?_
   refine ln_r rfl (ry_nilp rfl) ?_
   refine ln_r rfl (ry_field (o' := 0) rfl rfl) ?_
   refine ln_r rfl (ry_field (o' := 0) rfl rfl) ?_
   refine ln_r rfl (ry_field (o' := 1) rfl rfl) ?_
   refine ln_r rfl (Ry.to (v' := .int .i64 e.size) (ry_cellc rfl) rfl) ?_
   refine ln_st rfl (st_callC rfl trivial fun x53 hp53 => ⟨fun _ hw => Keep.mem hw, ?_⟩)
   refine ln_r rfl (ry_move rfl) ?_
   refine ln_r rfl (ry_extract (v := x53.val) rfl rfl) ?_
   refine ln_r rfl (ry_extract (v := .int .i64 ((rputF (rvv (⟨UInt64.ofNat (firstG (cv e) j), ⟨⟨false, b43, 0, n.toNat, n.toNat, none⟩, (List.replicate n.toNat 0)⟩⟩ : Rts)) e.size).2)) rfl rfl) ?_
   refine ln_r rfl (ry_assign rfl) ?_
   refine ln_r rfl (ry_assign rfl) ?_
   refine ln_nil ?_
   refine ex_then ?_
   refine cw_seq ?_
   refine cw_seq ?_
   refine cw_region ?_
   refine sq_r (ry_move rfl) ?_
   refine sq_r (ry_int rfl rfl rfl) ?_
   refine sq_r (ry_move rfl) ?_
   refine sq_gf rfl rfl rfl (fun hg => (Ry.yl (ry_move rfl))) ?_
   refine sq_gf rfl rfl rfl (fun hg => (Ry.yl (ry_move rfl))) ?_
   refine sq_gf rfl rfl rfl (fun hg => yl_callC (evl_cons (ev_c hg rfl) (evl_cons (ev_c hg rfl) evl_nil)) ⟨hj3, by omega, by omega⟩) ?_
   refine sq_gf rfl rfl rfl (fun hg => (Ry.yl (ry_int (ev_c hg rfl) rfl rfl))) ?_
   refine sq_r (ry_or rfl rfl rfl) ?_
   refine sq_nil ?_
   refine ex_then ?_
   refine cw_cond rfl (fun h4 => ?_) (fun h4 => ?_)
   ·
    try simp only [Z0, Z1, Z2, Z3, Z4, Z5, Z6, Z7, Z8, Z9] at h4
    have h4d : (rputF (rvv (⟨UInt64.ofNat (firstG (cv e) j), ⟨⟨false, b43, 0, n.toNat, n.toNat, none⟩, (List.replicate n.toNat 0)⟩⟩ : Rts)) e.size).2 ≠ 0 ∨ freeF (cv e) j = 0 := h4
    refine cw_exit ?_
    refine ex_pass_exit ?_
    refine ex_block_hit ?_
    refine ex_then ?_
    refine cw_region ?_
    refine sq_r (ry_add rfl rfl (by omega)) ?_
    refine sq_r (ry_move rfl) ?_
    refine sq_nil ?_
    exact ex_again (x := (j, e)) (j + 1, e) ⟨by simp only; omega, by rw [hj2, hst, if_pos h4d]; rfl, hj3, hj4⟩ (by simp only; omega) (Sub.cons rfl (Sub.cons rfl (Sub.cons rfl (Sub.nil _)))) (fun w hw => Keep.mem hw)
   ·
    try simp only [Z0, Z1, Z2, Z3, Z4, Z5, Z6, Z7, Z8, Z9] at h4
    have h4d : ¬ ((rputF (rvv (⟨UInt64.ofNat (firstG (cv e) j), ⟨⟨false, b43, 0, n.toNat, n.toNat, none⟩, (List.replicate n.toNat 0)⟩⟩ : Rts)) e.size).2 ≠ 0 ∨ freeF (cv e) j = 0) := fun h => h.elim (fun g => g h4.1) h4.2
    refine cw_skip ?_
    refine ex_then ?_
    refine cw_seq ?_
    refine cw_seq ?_
    refine cw_region ?_
    refine sq_r (ry_move rfl) ?_
    refine sq_r (ry_move rfl) ?_
    refine sq_r (ry_move rfl) ?_
    refine sq_callC rfl ⟨hj3, by omega, by omega⟩ fun x67 hp67 => ?_
    refine sq_r (ry_assign rfl) ?_
    refine sq_nil ?_
    refine ex_then ?_
    refine cw_seq ?_
    refine cw_region ?_
    refine sq_r (ry_move rfl) ?_
    refine sq_r (ry_int rfl rfl rfl) ?_
    refine sq_nil ?_
    refine ex_then ?_
    refine cw_cond rfl (fun h5 => ?_) (fun h5 => ?_)
    ·
     try simp only [Z0, Z1, Z2, Z3, Z4, Z5, Z6, Z7, Z8, Z9] at h5
     have h5d : (progWE (cv e) j (rputF (rvv (⟨UInt64.ofNat (firstG (cv e) j), ⟨⟨false, b43, 0, n.toNat, n.toNat, none⟩, (List.replicate n.toNat 0)⟩⟩ : Rts)) e.size).1) = 0 := h5
     have hE : (beginF (⟨⟨cv xc, xa.xs, xg.toNat, xl⟩, xy⟩ : WV) n.toNat) = ((⟨newVol (progW (cv e) j (rputF (rvv (⟨UInt64.ofNat (firstG (cv e) j), ⟨⟨false, b43, 0, n.toNat, n.toNat, none⟩, (List.replicate n.toNat 0)⟩⟩ : Rts)) e.size).1) j n.toNat (firstG (cv e) j), xy⟩ : WV), 0) := by rw [hj2, hst, if_neg h4d, if_pos h5d]
     refine cw_seq ?_
     refine cw_lin [11, 15, 19, 1003, 1004, 1009, 1010, 1013, 1014, 1017, 1018] [[], [], [], [], [3], [], [], [], [3, 4], [3, 4], [3, 4, 9], [3, 4, 9, 10], [3, 4, 9, 10, 11], [3, 4, 9, 10, 11], [3, 4, 9, 10, 11, 13], [3, 4, 9, 10, 11, 13, 14], [3, 4, 9, 10, 11, 13, 14, 15], [3, 4, 9, 10, 11, 13, 14, 15], [3, 4, 9, 10, 11, 13, 14, 15, 17], [3, 4, 9, 10, 11, 13, 14, 15, 17, 18]] [0, 1, 2, 3, 4, 5, 6, 7, 8, 9, 10, 11, 12, 13, 14, 15, 16, 17, 18, 19] [blk b8 (rtcells (⟨UInt64.ofNat (firstG (cv e) j), ⟨⟨false, b43, 0, n.toNat, n.toNat, none⟩, (List.replicate n.toNat 0)⟩⟩ : Rts)) 147] (fun _ hw => Keep.mem hw) (by kernel_rfl) (by kernel_rfl) ?_
     refine ln_r rfl (ry_move rfl) ?_
     refine ln_r rfl (ry_move rfl) ?_
     refine ln_r rfl (ry_move rfl) ?_
     refine lt_r rfl (ry_field (o' := 1) rfl rfl) ?_
     refine lt_r rfl (ry_cellc rfl) ?_
     refine ln_r rfl (ry_field (o' := 0) rfl rfl) ?_
     refine ln_r rfl (ry_cellc rfl) ?_
     refine ln_r rfl (ry_move rfl) ?_
     refine ln_r rfl (ry_nilp rfl) ?_
     refine lt_r rfl (ry_field (o' := 0) rfl rfl) ?_
     refine lt_r rfl (ry_field (o' := 6) rfl rfl) ?_
     refine ln_st rfl (st_store (cs' := wtcells (⟨⟨x67, ⟨⟨false, b43, 0, n.toNat, n.toNat, none⟩, (List.replicate n.toNat 0)⟩, xg, xl⟩, xy⟩ : Wtr)) rfl rfl (by show 6 < 10; decide) (by first | rfl | exact Sv.one _) rfl ⟨fun _ hw => Keep.mem hw, ?_⟩)
     refine ln_r rfl (ry_nilp rfl) ?_
     refine lt_r rfl (ry_field (o' := 0) rfl rfl) ?_
     refine lt_r rfl (ry_field (o' := 7) rfl rfl) ?_
     refine ln_st rfl (st_store (cs' := wtcells (⟨⟨x67, ⟨⟨false, b43, 0, n.toNat, n.toNat, none⟩, (List.replicate n.toNat 0)⟩, (UInt64.ofNat (firstG (cv e) j)), xl⟩, xy⟩ : Wtr)) rfl rfl (by show 7 < 10; decide) (by first | rfl | exact Sv.one _) rfl ⟨fun _ hw => Keep.mem hw, ?_⟩)
     refine ln_r rfl (ry_nilp rfl) ?_
     refine lt_r rfl (ry_field (o' := 0) rfl rfl) ?_
     refine lt_r rfl (ry_field (o' := 8) rfl rfl) ?_
     refine ln_st rfl (st_store (cs' := wtcells (⟨⟨x67, ⟨⟨false, b43, 0, n.toNat, n.toNat, none⟩, (List.replicate n.toNat 0)⟩, (UInt64.ofNat (firstG (cv e) j)), ((j : Nat) : Int)⟩, xy⟩ : Wtr)) rfl rfl (by show 8 < 10; decide) (by first | rfl | exact Sv.one _) rfl ⟨fun _ hw => Keep.mem hw, ?_⟩)
     refine ln_nil ?_
     refine ex_then ?_
     refine cw_seq ?_
     refine cw_region ?_
     refine sq_r (ry_assign rfl) ?_
     refine sq_nil ?_
     refine ex_then ?_
     refine cw_ret ?_
     refine ex_pass_ret ?_
     refine ex_block_ret ?_
     refine ex_pass_ret ?_
     refine ex_pass_ret ?_
     refine ex_block_ret ?_
     refine ex_pass_ret ?_
     refine ex_ret (.inl rfl) (res_1 rfl (rv_tmp rfl)) (fun w1 hw => ?_)
     exact ⟨(x67, ⟨⟨false, b43, 0, n.toNat, n.toNat, none⟩, (List.replicate n.toNat 0)⟩, UInt64.ofNat (firstG (cv e) j), (j : Int)), by rw [hE], by rw [hE, hp67, newVol]; simp only [hfg], Keep.mem (frzI (a := ⟨⟨false, b43, 0, n.toNat, n.toNat, none⟩, (List.replicate n.toNat 0)⟩) (Keep.mem hw : Mem w0 (own iec 1 ⟨false, b43, 0, n.toNat, n.toNat, none⟩ (List.replicate n.toNat 0) :: blk k (wtcells (⟨⟨x67, ⟨⟨false, b43, 0, n.toNat, n.toNat, none⟩, (List.replicate n.toNat 0)⟩, (UInt64.ofNat (firstG (cv e) j)), (j : Int)⟩, xy⟩ : Wtr)) 141 :: fz x67 :: L) _))⟩
    ·
     try simp only [Z0, Z1, Z2, Z3, Z4, Z5, Z6, Z7, Z8, Z9] at h5
     have h5d : ¬ (progWE (cv e) j (rputF (rvv (⟨UInt64.ofNat (firstG (cv e) j), ⟨⟨false, b43, 0, n.toNat, n.toNat, none⟩, (List.replicate n.toNat 0)⟩⟩ : Rts)) e.size).1) = 0 := h5
     refine cw_skip ?_
     refine ex_then ?_
     refine cw_seq ?_
     refine cw_region ?_
     refine sq_r (ry_move rfl) ?_
     refine sq_r (ry_int rfl rfl rfl) ?_
     refine sq_nil ?_
     refine ex_then ?_
     refine cw_cond rfl (fun h6 => ?_) (fun h6 => ?_)
     ·
      try simp only [Z0, Z1, Z2, Z3, Z4, Z5, Z6, Z7, Z8, Z9] at h6
      have hE : (beginF (⟨⟨cv xc, xa.xs, xg.toNat, xl⟩, xy⟩ : WV) n.toNat) = ((⟨⟨cv xc, xa.xs, xg.toNat, xl⟩, xy⟩ : WV).on (progW (cv e) j (rputF (rvv (⟨UInt64.ofNat (firstG (cv e) j), ⟨⟨false, b43, 0, n.toNat, n.toNat, none⟩, (List.replicate n.toNat 0)⟩⟩ : Rts)) e.size).1), (progWE (cv e) j (rputF (rvv (⟨UInt64.ofNat (firstG (cv e) j), ⟨⟨false, b43, 0, n.toNat, n.toNat, none⟩, (List.replicate n.toNat 0)⟩⟩ : Rts)) e.size).1)) := by rw [hj2, hst, if_neg h4d, if_neg h5d, if_pos (show (progWE (cv e) j (rputF (rvv (⟨UInt64.ofNat (firstG (cv e) j), ⟨⟨false, b43, 0, n.toNat, n.toNat, none⟩, (List.replicate n.toNat 0)⟩⟩ : Rts)) e.size).1) ≠ 9 from h6)]
      refine cw_seq ?_
      refine cw_region ?_
      refine sq_r (ry_move rfl) ?_
      refine sq_r (ry_assign rfl) ?_
      refine sq_nil ?_
      refine ex_then ?_
      refine cw_ret ?_
      refine ex_block_ret ?_
      refine ex_pass_ret ?_
      refine ex_pass_ret ?_
      refine ex_block_ret ?_
      refine ex_pass_ret ?_
      refine ex_ret (.inl rfl) (res_1 rfl (rv_tmp rfl)) (fun w1 hw => ?_)
      exact ⟨(x67, xa, xg, xl), by rw [hE], by rw [hE, hp67]; rfl, Keep.mem hw⟩
     ·
      try simp only [Z0, Z1, Z2, Z3, Z4, Z5, Z6, Z7, Z8, Z9] at h6
      refine cw_skip ?_
      refine ex_block ?_
      refine ex_then ?_
      refine cw_region ?_
      refine sq_r (ry_add rfl rfl (by omega)) ?_
      refine sq_r (ry_move rfl) ?_
      refine sq_nil ?_
      exact ex_again (x := (j, e)) (j + 1, x67) ⟨by simp only; omega, by rw [hj2, hst, if_neg h4d, if_neg h5d, if_neg (fun h => h h6), hp67]; rfl, by rw [hp67]; exact progW_ok hj3 _ _, by rw [hp67]; exact hj4.trans (progW_like _ _ _)⟩ (by simp only; omega) (Sub.cons rfl (Sub.cons rfl (Sub.cons rfl (Sub.nil _)))) (fun w hw => Keep.mem hw)
  ·
   try simp only [Z0, Z1, Z2, Z3, Z4, Z5, Z6, Z7, Z8, Z9] at h3
   obtain rfl : j = 2 := by omega
   have hE : (beginF (⟨⟨cv xc, xa.xs, xg.toNat, xl⟩, xy⟩ : WV) n.toNat) = ((⟨⟨cv xc, xa.xs, xg.toNat, xl⟩, xy⟩ : WV).on (cv e), 9) := by rw [hj2]; rfl
   refine cw_exit ?_
   refine ex_pass_exit ?_
   refine ex_pass_exit ?_
   refine ex_block_hit ?_
   refine ex_then ?_
   refine cw_seq ?_
   refine cw_region ?_
   refine sq_r (ry_assign rfl) ?_
   refine sq_nil ?_
   refine ex_then ?_
   refine cw_ret ?_
   refine ex_ret (.inl rfl) (res_1 rfl (rv_tmp rfl)) (fun w1 hw => ?_)
   exact ⟨(e, xa, xg, xl), by rw [hE], by rw [hE]; rfl, Keep.mem hw⟩
instance wbegin_i {w0 : World} {L R1 R2 L2 : List Ent} {i0 i1 i2 : Nat} {k : Nat} {xc : Cp} {xa : Sl Int} {xg : UInt64} {xl : Int} {xy : Bool} {n : Int} [q0 : Has L k (wtcells (⟨⟨xc, xa, xg, xl⟩, xy⟩ : Wtr)) 141 i0] [d0 : DelI L i0 R1] [q1 : At R1 (fz xc) i1] [d1 : DelI R1 i1 R2] [q2 : At R2 (fz xa) i2] [d2 : DelI R2 i2 L2]  : FnC Tryz.prog 85 w0 L [.pointer (some ⟨k, 0, none⟩), .int .i64 n] (Cp × Sl Int × UInt64 × Int) (fun zz => .int .i64 ((beginF (⟨⟨cv xc, xa.xs, xg.toNat, xl⟩, xy⟩ : WV) n.toNat).2)) (fun zz => blk k (wtcells (⟨⟨zz.1, zz.2.1, zz.2.2.1, zz.2.2.2⟩, xy⟩ : Wtr)) 141 :: fz zz.1 :: fz zz.2.1 :: L2) (fun zz => (⟨⟨cv zz.1, zz.2.1.xs, zz.2.2.1.toNat, zz.2.2.2⟩, xy⟩ : WV) = (beginF (⟨⟨cv xc, xa.xs, xg.toNat, xl⟩, xy⟩ : WV) n.toNat).1) (WrOk (⟨⟨cv xc, xa.xs, xg.toNat, xl⟩, xy⟩ : WV) ∧ 0 ≤ n ∧ n ≤ 64) := ⟨fun hp w hw => wbegin_c w0 w L2 k xc xa xg xl xy n (mem_three q0.h d0.h q1.h d1.h q2.h d2.h hw) hp⟩

end Go.Proofs.YtaipiecplldinaaGreat

/- Volumes written and formatted. -/
namespace Go.Proofs.YtaipiecplldinaaGreat
open Go.Eng Go.Kb
open Go.RowKit
theorem flimit_c (w : World) (b : Int) (p : Int)  : Calls Tryz.prog 42 #[.int .i64 b, .int .i64 p] w fun e w' => e = .returned (.int .i64 (limitF b p)) ∧ Mem w [] w' := by
 refine calls_of (args := [_, _]) Tryz.func42 rfl Tryz.ntmps42 rfl ?_
 change Cw _ _ _ _ _ [(0, .int .i64 b), (1, .int .i64 p)] []
 refine cw_seq ?_
 refine cw_region ?_
 refine sq_r (ry_assign rfl) ?_
 refine sq_nil ?_
 refine ex_then ?_
 refine cw_seq ?_
 refine cw_seq ?_
 refine cw_region ?_
 refine sq_r (ry_move rfl) ?_
 refine sq_r (ry_int rfl rfl rfl) ?_
 refine sq_r (ry_move rfl) ?_
 refine sq_gf rfl rfl rfl (fun hg => (Ry.yl (ry_move rfl))) ?_
 refine sq_gf rfl rfl rfl (fun hg => (Ry.yl (ry_int (ev_c hg rfl) rfl rfl))) ?_
 refine sq_r (ry_or rfl rfl rfl) ?_
 refine sq_r (ry_move rfl) ?_
 refine sq_gf rfl rfl rfl (fun hg => (Ry.yl (ry_move rfl))) ?_
 refine sq_gf rfl rfl rfl (fun hg => (Ry.yl (ry_int (ev_c hg rfl) rfl rfl))) ?_
 refine sq_r (ry_or rfl rfl rfl) ?_
 refine sq_r (ry_move rfl) ?_
 refine sq_gf rfl rfl rfl (fun hg => (Ry.yl (ry_move rfl))) ?_
 refine sq_gf rfl rfl rfl (fun hg => (Ry.yl (ry_int (ev_c hg rfl) rfl rfl))) ?_
 refine sq_r (ry_or rfl rfl rfl) ?_
 refine sq_nil ?_
 refine ex_then ?_
 refine cw_cond rfl (fun h0 => ?_) (fun h0 => ?_)
 ·
  try simp only [Z0, Z1, Z2, Z3, Z4, Z5, Z6, Z7, Z8, Z9] at h0
  have hE : limitF b p = 0 := if_pos (by omega)
  refine cw_seq ?_
  refine cw_region ?_
  refine sq_r (ry_assign rfl) ?_
  refine sq_nil ?_
  refine ex_then ?_
  refine cw_ret ?_
  refine ex_pass_ret ?_
  refine ex_ret (.inl rfl) (res_1 rfl (rv_tmp rfl)) (fun w1 hw => ?_)
  exact ⟨congrArg (fun b => Ending.returned (Value.int .i64 b)) (hE.symm), Keep.mem hw⟩
 ·
  try simp only [Z0, Z1, Z2, Z3, Z4, Z5, Z6, Z7, Z8, Z9] at h0
  have hE : limitF b p = (b - 4) * p := if_neg (by omega)
  have hm0 : 0 ≤ (b - 4) * p := Int.mul_nonneg (by omega) (by omega)
  have hm1 : (b - 4) * p ≤ 28 * 16 := Int.mul_le_mul (by omega) (by omega) (by omega) (by omega)
  refine cw_skip ?_
  refine ex_then ?_
  refine cw_seq ?_
  refine cw_region ?_
  refine sq_r (ry_move rfl) ?_
  refine sq_r (ry_sub rfl rfl (by omega)) ?_
  refine sq_r (ry_move rfl) ?_
  refine sq_r (ry_mul rfl rfl (by omega)) ?_
  refine sq_r (ry_assign rfl) ?_
  refine sq_nil ?_
  refine ex_then ?_
  refine cw_ret ?_
  refine ex_ret (.inl rfl) (res_1 rfl (rv_tmp rfl)) (fun w1 hw => ?_)
  exact ⟨congrArg (fun b => Ending.returned (Value.int .i64 b)) (hE.symm), Keep.mem hw⟩
instance flimit_i {w0 : World} {L : List Ent} {b : Int} {p : Int}  : FnQ Tryz.prog 42 w0 L [.int .i64 b, .int .i64 p] (.int .i64 (limitF b p)) (True) := ⟨fun hp w hw => flimit_c w b p ⟩
theorem ffitting_c (w : World) (v : Vol) (it : Sl It) (hv : Deep.good (hp w) v) (hit : Deep.good (hp w) it) : Calls Tryz.prog 86 #[.agg (vlcells v), it.sv.val] w fun e w' => e = .returned (.bool (fitOk (vv v) (it.xs.map itv))) ∧ Mem w [] w' := by
 have ghv : GvD w v := ⟨hv⟩
 have ghit : GvD w it := ⟨hit⟩
 have hbd := hit.1.bd
 have hbv := hv.2.1.bd
 have hil : (it.xs.map itv).length = it.xs.length := List.length_map _
 refine calls_of (args := [_, _]) Tryz.func86 rfl Tryz.ntmps86 rfl ?_
 change Cw _ _ _ _ _ [(0, .agg (vlcells v)), (1, it.sv.val)] []
 refine cw_seq ?_
 refine cw_region ?_
 refine sq_boxA rfl fun b2 => ?_
 refine sq_r (ry_assign rfl) ?_
 refine sq_nil ?_
 refine ex_then ?_
 refine cw_seq ?_
 refine cw_region ?_
 refine sq_makeMap0 kInt vUnit fun b10 => ?_
 refine sq_r (ry_assign rfl) ?_
 refine sq_nil ?_
 refine ex_then ?_
 refine cw_seq ?_
 refine cw_seq ?_
 refine cw_region ?_
 refine sq_r (ry_move rfl) ?_
 refine sq_r (ry_lenH rfl) ?_
 refine sq_r (ry_move rfl) ?_
 refine sq_nil ?_
 refine ex_then ?_
 refine cw_block ?_
 refine cw_loop (X := Nat) (fun zz => [(13, .int .i64 (zz : Nat)), (5, .map (some b10)), (2, .pointer (some ⟨b2, 0, none⟩)), (11, it.sv.val), (12, .int .i64 (it.xs.length : Nat))]) (fun zz => [omap Tryz.prog 3 kInt vUnit b10 (idsF ((it.xs.map itv).map Prod.fst) zz), blk b2 (vlcells v) 29]) (fun zz => zz ≤ it.xs.length ∧ ∀ j, j < zz → fitAt (vv v) (it.xs.map itv) j = true) (fun zz => it.xs.length - zz) 0 ⟨Nat.zero_le _, fun j hj => by first | omega | (simp only []; omega)⟩ (Sub.cons rfl (Sub.cons rfl (Sub.cons rfl (Sub.cons rfl (Sub.cons rfl (Sub.nil _)))))) (fun w hw => by
  rw [← idsF_zero]; exact Keep.mem hw) ?_
 rintro i ⟨hi1, hi2⟩
 refine cw_seq ?_
 refine cw_region ?_
 refine sq_r (ry_int rfl rfl rfl) ?_
 refine sq_nil ?_
 refine ex_then ?_
 refine cw_seq ?_
 refine cw_cond rfl (fun h0 => ?_) (fun h0 => ?_)
 ·
  try simp only [Z0, Z1, Z2, Z3, Z4, Z5, Z6, Z7, Z8, Z9] at h0
  obtain ⟨z, hz⟩ := get_some (xs := it.xs) (i := i) (by omega)
  have mbz : Mb z it := ⟨List.mem_of_getElem? hz⟩
  have hitz : (it.xs.map itv)[i]? = Option.some (itv z) := by rw [List.getElem?_map, hz]; rfl
  have hgz : (it.xs.map itv).getD i (0, []) = itv z := by simp [List.getD, hitz]
  have hidz : ((it.xs.map itv).map Prod.fst)[i]? = Option.some z.id := by rw [List.getElem?_map, hitz]; rfl
  have hfa : (fitAt (vv v) (it.xs.map itv) i) = (fitIt (vv v) (itv z) && !(((it.xs.map itv).map Prod.fst).take i).contains z.id) := by rw [fitAt, hgz, List.map_take]; rfl
  have hno : (fitAt (vv v) (it.xs.map itv) i) = false → fitOk (vv v) (it.xs.map itv) = false := fun h => by
   cases hk9 : fitOk (vv v) (it.xs.map itv) with
   | false => rfl
   | true => have := fitOk_iff.1 hk9 i (by omega); rw [h] at this; cases this
  have hfi : fitIt (vv v) (itv z) = true ↔ 0 ≤ z.id ∧ z.id < v.at_.xs.length ∧ (z.body.xs.length : Int) ≤ roomF v.chip.size := by
   rw [fitIt, Bool.and_eq_true, Bool.and_eq_true, decide_eq_true_eq, decide_eq_true_eq, decide_eq_true_eq, and_assoc]; rfl
  refine cw_skip ?_
  refine ex_then ?_
  refine cw_seq ?_
  refine cw_block ?_
  refine cw_seq ?_
  refine cw_region ?_
  refine sq_r (ry_idxH rfl rfl i rfl (by omega)) ?_
  refine sq_r (ry_elemH rfl i hz rfl) ?_
  have mb16 : Mb z it := ⟨List.mem_of_getElem? hz⟩
  refine sq_allocA fun b7 => ?_
  refine sq_storeW rfl rfl ?_
  refine sq_nil ?_
  refine ex_then ?_
  refine cw_seq ?_
  refine cw_seq ?_
  refine cw_quiet (by kernel_rfl) (by kernel_rfl) ?_
  refine qt_r (ry_field (o' := 0) rfl rfl) ?_
  refine qt_r (ry_cellc rfl) ?_
  refine qt_r (ry_int rfl rfl rfl) ?_
  refine qt_r (ry_move rfl) ?_
  refine qt_gf rfl rfl rfl (fun hg => (Ry.yl (ry_field (o' := 0) rfl rfl))) ?_
  refine qt_gf rfl rfl rfl (fun hg => (Ry.yl (ry_cellc (ev_c hg rfl)))) ?_
  refine qt_gf rfl rfl rfl (fun hg => (Ry.yl (ry_field (o' := 6) rfl rfl))) ?_
  refine qt_gf rfl rfl rfl (fun hg => (Ry.yl (ry_cellc (ev_c hg rfl)))) ?_
  refine qt_gf rfl rfl rfl (fun hg => (Ry.yl (ry_lenH (ev_c hg rfl)))) ?_
  refine qt_gf rfl rfl rfl (fun hg => (Ry.yl (ry_int (ev_c hg rfl) (ev_c hg rfl) rfl))) ?_
  refine qt_r (ry_or rfl rfl rfl) ?_
  refine qt_r (ry_move rfl) ?_
  refine qt_gf rfl rfl rfl (fun hg => (Ry.yl (ry_field (o' := 1) rfl rfl))) ?_
  refine qt_gf rfl rfl rfl (fun hg => (Ry.yl (ry_cellc (ev_c hg rfl)))) ?_
  refine qt_gf rfl rfl rfl (fun hg => (Ry.yl (ry_lenH (ev_c hg rfl)))) ?_
  refine qt_gf rfl rfl rfl (fun hg => (Ry.yl (ry_field (o' := 0) rfl rfl))) ?_
  refine qt_gf rfl rfl rfl (fun hg => (Ry.yl (ry_field (o' := 1) (ev_c hg rfl) rfl))) ?_
  refine qt_gf rfl rfl rfl (fun hg => (Ry.yl (ry_cellc (ev_c hg rfl)))) ?_
  refine qt_gf rfl rfl rfl (fun hg => yl_callC (evl_cons (ev_c hg rfl) evl_nil) trivial) ?_
  refine qt_gf rfl rfl rfl (fun hg => (Ry.yl (ry_int (ev_c hg rfl) (ev_c hg rfl) rfl))) ?_
  refine qt_r (ry_or rfl rfl rfl) ?_
  refine qt_nil ?_
  refine ex_then ?_
  refine cw_cond rfl (fun h1 => ?_) (fun h1 => ?_)
  ·
   try simp only [Z0, Z1, Z2, Z3, Z4, Z5, Z6, Z7, Z8, Z9] at h1
   have hE : fitOk (vv v) (it.xs.map itv) = false := hno (by
    have : ¬ fitIt (vv v) (itv z) = true := fun h => by have := hfi.1 h; omega
    rw [hfa, show fitIt (vv v) (itv z) = false by simpa using this]; rfl)
   refine cw_seq ?_
   refine cw_region ?_
   refine sq_r (ry_assign rfl) ?_
   refine sq_nil ?_
   refine ex_then ?_
   refine cw_ret ?_
   refine ex_pass_ret ?_
   refine ex_block_ret ?_
   refine ex_pass_ret ?_
   refine ex_pass_ret ?_
   refine ex_block_ret ?_
   refine ex_pass_ret ?_
   refine ex_ret (.inl rfl) (res_1 rfl (rv_tmp rfl)) (fun w1 hw => ?_)
   exact ⟨congrArg (fun b => Ending.returned (Value.bool b)) (hE.symm), Keep.mem hw⟩
  ·
   try simp only [Z0, Z1, Z2, Z3, Z4, Z5, Z6, Z7, Z8, Z9] at h1
   have hfz : fitIt (vv v) (itv z) = true := hfi.2 ⟨by omega, by omega, by omega⟩
   have hyk := key_int (n := z.id) (by omega)
   refine cw_skip ?_
   refine ex_then ?_
   refine cw_seq ?_
   refine cw_seq ?_
   refine cw_region ?_
   refine sq_r (ry_move rfl) ?_
   refine sq_r (ry_field (o' := 0) rfl rfl) ?_
   refine sq_r (ry_cellc rfl) ?_
   refine sq_r (ry_lookupOk (kenc := kInt) (venc := vUnit) (f := idsF ((it.xs.map itv).map Prod.fst) i) (v := z.id) (z := ()) rfl rfl hyk) ?_
   refine sq_r (ry_move rfl) ?_
   refine sq_r (ry_extract (v := .agg #[]) rfl rfl) ?_
   refine sq_r (ry_extract (v := .bool ((idsF ((it.xs.map itv).map Prod.fst) i z.id).isSome)) rfl rfl) ?_
   refine sq_allocA fun b8 => ?_
   refine sq_storeW rfl rfl ?_
   refine sq_r (ry_assign rfl) ?_
   refine sq_nil ?_
   refine ex_then ?_
   refine cw_seq ?_
   refine cw_region ?_
   refine sq_r (ry_move rfl) ?_
   refine sq_nil ?_
   refine ex_then ?_
   refine cw_cond rfl (fun h2 => ?_) (fun h2 => ?_)
   ·
    try simp only [Z0, Z1, Z2, Z3, Z4, Z5, Z6, Z7, Z8, Z9] at h2
    have hE : fitOk (vv v) (it.xs.map itv) = false := hno (by
     rw [idsF_some] at h2
     rw [hfa, hfz, List.contains_eq_mem, h2]; rfl)
    refine cw_seq ?_
    refine cw_region ?_
    refine sq_r (ry_assign rfl) ?_
    refine sq_nil ?_
    refine ex_then ?_
    refine cw_ret ?_
    refine ex_pass_ret ?_
    refine ex_block_ret ?_
    refine ex_pass_ret ?_
    refine ex_pass_ret ?_
    refine ex_block_ret ?_
    refine ex_pass_ret ?_
    refine ex_ret (.inl rfl) (res_1 rfl (rv_tmp rfl)) (fun w1 hw => ?_)
    exact ⟨congrArg (fun b => Ending.returned (Value.bool b)) (hE.symm), Keep.mem hw⟩
   ·
    try simp only [Z0, Z1, Z2, Z3, Z4, Z5, Z6, Z7, Z8, Z9] at h2
    have hok : (fitAt (vv v) (it.xs.map itv) i) = true := by
     rw [idsF_some] at h2
     rw [hfa, hfz, List.contains_eq_mem, h2]; rfl
    have hsn := idsF_next hidz
    refine cw_skip ?_
    refine ex_then ?_
    refine cw_region ?_
    refine sq_r (ry_move rfl) ?_
    refine sq_r (ry_field (o' := 0) rfl rfl) ?_
    refine sq_r (ry_cellc rfl) ?_
    refine sq_r (ry_build (v := .agg #[]) rfl (fun w => by kernel_rfl)) ?_
    refine sq_mapUpdate (kenc := kInt) (venc := vUnit) (v := z.id) (u := ()) rfl rfl rfl hyk ?_
    refine sq_nil ?_
    refine ex_block ?_
    refine ex_then ?_
    refine cw_region ?_
    refine sq_r (ry_add rfl rfl (by omega)) ?_
    refine sq_r (ry_move rfl) ?_
    refine sq_nil ?_
    exact ex_again (x := (i)) (i + 1) ⟨by first | omega | (simp only []; omega), fun j hj => if e : j = i then e ▸ hok else hi2 j (by first | omega | (simp only []; omega))⟩ (by first | omega | (simp only []; omega)) (Sub.cons rfl (Sub.cons rfl (Sub.cons rfl (Sub.cons rfl (Sub.cons rfl (Sub.nil _)))))) (fun w hw => by
     rw [← hsn]; exact Keep.mem hw)
 ·
  try simp only [Z0, Z1, Z2, Z3, Z4, Z5, Z6, Z7, Z8, Z9] at h0
  obtain rfl : i = it.xs.length := by omega
  have hE : fitOk (vv v) (it.xs.map itv) = true := fitOk_iff.2 fun j hj => hi2 j (by omega)
  refine cw_exit ?_
  refine ex_pass_exit ?_
  refine ex_pass_exit ?_
  refine ex_block_hit ?_
  refine ex_then ?_
  refine cw_seq ?_
  refine cw_region ?_
  refine sq_r (ry_assign rfl) ?_
  refine sq_nil ?_
  refine ex_then ?_
  refine cw_ret ?_
  refine ex_ret (.inl rfl) (res_1 rfl (rv_tmp rfl)) (fun w1 hw => ?_)
  exact ⟨congrArg (fun b => Ending.returned (Value.bool b)) (hE.symm), Keep.mem hw⟩
instance ffitting_i {w0 : World} {L : List Ent} {v : Vol} {it : Sl It} [hv : HdD w0 L v] [hit : HdD w0 L it] : FnQ Tryz.prog 86 w0 L [.agg (vlcells v), it.sv.val] (.bool (fitOk (vv v) (it.xs.map itv))) (True) := ⟨fun hp w hw => ffitting_c w v it (hv.h w hw) (hit.h w hw)⟩
theorem fknownV_c (w : World) (v : Vol) (hv : Deep.good (hp w) v) : Calls Tryz.prog 17 #[.agg (vlcells v)] w fun e w' => ∃ zz : Sv, e = .returned (zz.val) ∧ (True) ∧ Mem w [own weacells 4 zz (knownV (vv v))] w' := by
 have ghv : GvD w v := ⟨hv⟩
 refine calls_of (args := [_]) Tryz.func17 rfl Tryz.ntmps17 rfl ?_
 change Cw _ _ _ _ _ [(0, .agg (vlcells v))] []
 refine cw_seq ?_
 refine cw_region ?_
 refine sq_boxA rfl fun b1 => ?_
 refine sq_r (ry_assign rfl) ?_
 refine sq_nil ?_
 refine ex_then ?_
 refine cw_seq ?_
 refine cw_seq ?_
 refine cw_region ?_
 refine sq_r (ry_whole rfl) ?_
 refine sq_y (yl_callC rfl trivial) ?_
 refine sq_r (ry_not rfl) ?_
 refine sq_nil ?_
 refine ex_then ?_
 refine cw_cond rfl (fun h0 => ?_) (fun h0 => ?_)
 ·
  try simp only [Z0, Z1, Z2, Z3, Z4, Z5, Z6, Z7, Z8, Z9] at h0
  have hE : knownV (vv v) = [] := if_neg (by rw [h0]; simp)
  refine cw_seq ?_
  refine cw_region ?_
  refine sq_r (ry_assign rfl) ?_
  refine sq_nil ?_
  refine ex_then ?_
  refine cw_ret ?_
  refine ex_pass_ret ?_
  refine ex_ret (.inl rfl) (res_1 rfl (rv_tmp rfl)) (fun w1 hw => ?_)
  exact ⟨Sv.none, rfl, trivial, by rw [hE]; exact Mem.nilOwn weacells 4 (Keep.mem hw : Mem w [] _)⟩
 ·
  try simp only [Z0, Z1, Z2, Z3, Z4, Z5, Z6, Z7, Z8, Z9] at h0
  have hE : knownV (vv v) = knownF (cv v.chip) (flatI [v.at_]) := by rw [flatI_one]; exact if_pos h0
  have hwr := right_wr (b := false) h0
  have hkn : KnOk (cv v.chip) (flatI [v.at_]) := by
   rw [flatI_one]
   exact (show NmOk (cv v.chip) v.at_.xs from hwr.nums).kn hwr.chip (by have h9 : 4 ≤ (cv v.chip).blocks.length := hwr.len'; omega) (by have : v.at_.xs.length ≤ 64 := hwr.few; omega)
  refine cw_skip ?_
  refine ex_then ?_
  refine cw_seq ?_
  refine cw_region ?_
  refine sq_r (ry_field (o' := 0) rfl rfl) ?_
  refine sq_r (ry_part rfl) ?_
  refine sq_r (ry_field (o' := 6) rfl rfl) ?_
  refine sq_r (ry_cellc rfl) ?_
  refine sq_buildSlice (enc := scells) (vals := [v.at_.sv.val]) [v.at_] rfl (by simp only [List.map_cons, List.map_nil, Sv.cells_val]; rfl) rfl (by decide) (by decide) fun b10 => ?_
  refine sq_callC (hc := fknown_i (l := (⟨⟨false, b10, 0, 1, 1, none⟩, [v.at_]⟩ : Sl (Sl Int)))) rfl hkn fun x11 hp11 => ?_
  refine sq_r (ry_assign rfl) ?_
  refine sq_nil ?_
  refine ex_then ?_
  refine cw_ret ?_
  refine ex_ret (.inl rfl) (res_1 rfl (rv_tmp rfl)) (fun w1 hw => ?_)
  exact ⟨x11, rfl, trivial, by rw [hE]; exact Keep.mem hw⟩
instance fknownV_i {w0 : World} {L : List Ent} {v : Vol} [hv : HdD w0 L v] : FnC Tryz.prog 17 w0 L [.agg (vlcells v)] (Sv) (fun zz => zz.val) (fun zz => own weacells 4 zz (knownV (vv v)) :: L) (fun zz => True) (True) := ⟨fun hp w hw => (fknownV_c w v (hv.h w hw)).mono fun e w' ⟨x, h1, h2, h3⟩ => ⟨x, h1, h2, hw.call h3⟩⟩
theorem wt_build (v : Vol) (w : World) : (Instr.build 141 #[(0, .agg (vlcells v))]).run Tryz.prog w = .ok (.agg (wtcells ⟨v, false⟩)) w := by
 obtain ⟨⟨a1, a2, ⟨a3, a4⟩, a5, a6, ⟨a7, a8⟩⟩, ⟨s, xs⟩, g, l⟩ := v
 unfold vlcells wtcells
 obtain ⟨e, b, o, l, c, p⟩ := s
 obtain ⟨e3, b3, o3, l3, c3, p3⟩ := a3
 obtain ⟨e7, b7, o7, l7, c7, p7⟩ := a7
 cases e <;> cases e3 <;> cases e7 <;> kernel_rfl
theorem vl_build (c : Cp) (w : World) : (Instr.build 29 #[(0, .agg (cpcells c))]).run Tryz.prog w = .ok (.agg (vlcells ⟨c, ⟨Sv.none, []⟩, 0, 0⟩)) w := by
 obtain ⟨a1, a2, ⟨a3, a4⟩, a5, a6, ⟨a7, a8⟩⟩ := c
 unfold vlcells cpcells
 obtain ⟨e3, b3, o3, l3, c3, p3⟩ := a3
 obtain ⟨e7, b7, o7, l7, c7, p7⟩ := a7
 cases e3 <;> cases e7 <;> kernel_rfl
theorem frzNilI {w0 w : World} {L : List Ent} (h : Mem w0 L w) : Mem w0 (fz (⟨Sv.none, []⟩ : Sl Int) :: L) w := frzI (a := ⟨Sv.none, []⟩) (Mem.nilOwn iec 1 h)
theorem frzI2 {w0 w : World} {c : Cp} {a : Sl Int} (h : Mem w0 [fz c, own iec 1 a.sv a.xs] w) : Mem w0 [fz c, fz a] w := Keep.mem (frzI (Keep.mem h : Mem w0 [own iec 1 a.sv a.xs, fz c] w))
theorem fwrite_c (w : World) (v : Vol) (it : Sl It) (hv : Deep.good (hp w) v) (hit : Deep.good (hp w) it) (hpre : smallC v.chip ∧ v.at_.xs.length ≤ 1000000 ∧ it.xs.length ≤ 1000000) : Calls Tryz.prog 41 #[.agg (vlcells v), it.sv.val] w fun e w' => ∃ zz : Cp × Sl Int × UInt64 × Int, e = .returned (.tuple #[.agg (vlcells (⟨zz.1, zz.2.1, zz.2.2.1, zz.2.2.2⟩ : Vol)), .int .i64 ((volWrite (vv v) (it.xs.map itv)).2)]) ∧ ((⟨cv zz.1, zz.2.1.xs, zz.2.2.1.toNat, zz.2.2.2⟩ : VV) = (volWrite (vv v) (it.xs.map itv)).1) ∧ Mem w [fz zz.1, fz zz.2.1] w' := by
 have ghv : GvD w v := ⟨hv⟩
 have ghit : GvD w it := ⟨hit⟩
 obtain ⟨hsm, hal, hil⟩ := hpre
 refine calls_of (args := [_, _]) Tryz.func41 rfl Tryz.ntmps41 rfl ?_
 change Cw _ _ _ _ _ [(0, .agg (vlcells v)), (1, it.sv.val)] []
 refine cw_seq ?_
 refine cw_region ?_
 refine sq_boxA rfl fun b2 => ?_
 refine sq_allocA fun b4 => ?_
 refine sq_r (ry_assign rfl) ?_
 refine sq_nil ?_
 refine ex_then ?_
 refine cw_seq ?_
 refine cw_seq ?_
 refine cw_region ?_
 refine sq_r (ry_whole rfl) ?_
 refine sq_y (yl_callC rfl trivial) ?_
 refine sq_r (ry_not rfl) ?_
 refine sq_r (ry_move rfl) ?_
 refine sq_gf rfl rfl rfl (fun hg => (Ry.yl (ry_field (o' := 7) rfl rfl))) ?_
 refine sq_gf rfl rfl rfl (fun hg => (Ry.yl (ry_cellc (ev_c hg rfl)))) ?_
 refine sq_gf rfl rfl rfl (fun hg => (Ry.yl (ry_int (ev_c hg rfl) rfl rfl))) ?_
 refine sq_r (ry_or rfl rfl rfl) ?_
 refine sq_r (ry_move rfl) ?_
 refine sq_gf rfl rfl rfl (fun hg => (Ry.yl (ry_whole rfl))) ?_
 refine sq_gf rfl rfl rfl (fun hg => (Ry.yl (ry_move rfl))) ?_
 refine sq_gf rfl rfl rfl (fun hg => yl_callC (evl_cons (ev_c hg rfl) (evl_cons (ev_c hg rfl) evl_nil)) trivial) ?_
 refine sq_gf rfl rfl rfl (fun hg => (Ry.yl (ry_not (ev_c hg rfl)))) ?_
 refine sq_r (ry_or rfl rfl rfl) ?_
 refine sq_nil ?_
 refine ex_then ?_
 refine cw_cond rfl (fun h0 => ?_) (fun h0 => ?_)
 ·
  try simp only [Z0, Z1, Z2, Z3, Z4, Z5, Z6, Z7, Z8, Z9] at h0
  have hE : (volWrite (vv v) (it.xs.map itv)) = (vv v, 1) := by
   rw [volWrite, if_pos]
   rintro ⟨g1, g2, g3⟩
   rcases h0 with (h | h) | h
   ·
    rw [g1] at h; cases h
   ·
    change v.gen.toNat < _ at g2; omega
   ·
    rw [g3] at h; cases h
  refine cw_seq ?_
  refine cw_region ?_
  refine sq_r (ry_whole rfl) ?_
  refine sq_callC rfl ⟨hsm, hal⟩ fun x24 hp24 => ?_
  refine sq_storeW rfl rfl ?_
  refine sq_r (ry_assign rfl) ?_
  refine sq_nil ?_
  refine ex_then ?_
  refine cw_ret ?_
  refine ex_pass_ret ?_
  refine ex_ret (.inl rfl) (res_2 rfl (rv_agg rfl) (rv_tmp rfl)) (fun w1 hw => ?_)
  exact ⟨(x24.1, ⟨x24.2, v.at_.xs⟩, v.gen, v.last), by rw [hE], by rw [hE, hp24]; rfl, frzI2 (Keep.mem hw)⟩
 ·
  try simp only [Z0, Z1, Z2, Z3, Z4, Z5, Z6, Z7, Z8, Z9] at h0
  have hq : rightF (vv v) = true ∧ (vv v).gen < 281474976710655 ∧ fitOk (vv v) (it.xs.map itv) = true := ⟨h0.1.1, by show v.gen.toNat < _; omega, h0.2⟩
  have hwr : WrOk (⟨vv v, false⟩ : WV) := right_wr hq.1
  have hids : ∀ x ∈ it.xs, 0 ≤ x.id ∧ x.id < v.at_.xs.length := fun x hx => by
   obtain ⟨j, hj⟩ := List.getElem?_of_mem hx
   have hitz : (it.xs.map itv)[j]? = Option.some (itv x) := by rw [List.getElem?_map, hj]; rfl
   have hg := fitOk_iff.1 hq.2.2 j (by rw [List.length_map]; exact (List.getElem?_eq_some_iff.1 hj).1)
   rw [fitAt, show (it.xs.map itv).getD j (0, []) = itv x by simp [List.getD, hitz], Bool.and_eq_true, fitIt, Bool.and_eq_true, Bool.and_eq_true, decide_eq_true_eq, decide_eq_true_eq] at hg
   exact ⟨hg.1.1.1, hg.1.1.2⟩
  have hbl : (cv v.chip).blocks.length = v.chip.blocks.xs.length := bvs_length _
  refine cw_skip ?_
  refine ex_then ?_
  refine cw_seq ?_
  refine cw_seq ?_
  refine cw_region ?_
  refine sq_r (ry_field (o' := 0) rfl rfl) ?_
  refine sq_r (ry_field (o' := 4) rfl rfl) ?_
  refine sq_r (ry_cellc rfl) ?_
  refine sq_nil ?_
  refine ex_then ?_
  refine cw_cond rfl (fun h1 => ?_) (fun h1 => ?_)
  ·
   try simp only [Z0, Z1, Z2, Z3, Z4, Z5, Z6, Z7, Z8, Z9] at h1
   have hE : (volWrite (vv v) (it.xs.map itv)) = (vv v, 7) := by rw [volWrite, if_neg (fun h => h hq), if_pos (show (vv v).chip.off = true from h1)]
   refine cw_seq ?_
   refine cw_region ?_
   refine sq_r (ry_whole rfl) ?_
   refine sq_callC rfl ⟨hsm, hal⟩ fun x29 hp29 => ?_
   refine sq_storeW rfl rfl ?_
   refine sq_r (ry_assign rfl) ?_
   refine sq_nil ?_
   refine ex_then ?_
   refine cw_ret ?_
   refine ex_pass_ret ?_
   refine ex_ret (.inl rfl) (res_2 rfl (rv_agg rfl) (rv_tmp rfl)) (fun w1 hw => ?_)
   exact ⟨(x29.1, ⟨x29.2, v.at_.xs⟩, v.gen, v.last), by rw [hE], by rw [hE, hp29]; rfl, frzI2 (Keep.mem hw)⟩
  ·
   try simp only [Z0, Z1, Z2, Z3, Z4, Z5, Z6, Z7, Z8, Z9] at h1
   have hE : (volWrite (vv v) (it.xs.map itv)) = ((tryTo (v.chip.blocks.xs.length + 1) (⟨vv v, false⟩ : WV) (it.xs.map itv)).1.v, (tryTo (v.chip.blocks.xs.length + 1) (⟨vv v, false⟩ : WV) (it.xs.map itv)).2) := by rw [volWrite, if_neg (fun h => h hq), if_neg (show ¬ (vv v).chip.off = true by rw [show (vv v).chip.off = v.chip.off from rfl, h1]; simp)]; rw [show (vv v).chip.blocks.length = v.chip.blocks.xs.length from hbl]
   refine cw_skip ?_
   refine ex_then ?_
   refine cw_seq ?_
   refine cw_region ?_
   refine sq_r (ry_whole rfl) ?_
   refine sq_callC rfl ⟨hsm, hal⟩ fun x31 hp31 => ?_
   refine sq_r (ry_build (v := .agg (wtcells (⟨⟨x31.1, ⟨x31.2, v.at_.xs⟩, v.gen, v.last⟩, false⟩ : Wtr))) rfl (wt_build _)) ?_
   refine sq_boxA rfl fun b33 => ?_
   refine sq_r (ry_assign rfl) ?_
   refine sq_nil ?_
   refine ex_then ?_
   refine cw_block ?_
   refine cw_loop (X := Nat × Cp × Sl Int × UInt64 × Int × Bool) (fun zz => [(6, .pointer (some ⟨b33, 0, none⟩)), (1, it.sv.val), (4, .pointer (some ⟨b4, 0, none⟩))]) (fun zz => [blk b33 (wtcells (⟨⟨zz.2.1, zz.2.2.1, zz.2.2.2.1, zz.2.2.2.2.1⟩, zz.2.2.2.2.2⟩ : Wtr)) 141, fz zz.2.1, fz zz.2.2.1, blk b4 (vlcells zVol) 29]) (fun zz => (tryTo (v.chip.blocks.xs.length + 1) (⟨vv v, false⟩ : WV) (it.xs.map itv)) = tryTo zz.1 (⟨⟨cv zz.2.1, zz.2.2.1.xs, zz.2.2.2.1.toNat, zz.2.2.2.2.1⟩, zz.2.2.2.2.2⟩ : WV) (it.xs.map itv) ∧ WrOk (⟨⟨cv zz.2.1, zz.2.2.1.xs, zz.2.2.2.1.toNat, zz.2.2.2.2.1⟩, zz.2.2.2.2.2⟩ : WV) ∧ zz.2.2.1.xs.length = v.at_.xs.length ∧ Like (cv v.chip) (cv zz.2.1) ∧ v.chip.blocks.xs.length < zz.1 + badsF (cv zz.2.1)) (fun zz => zz.1) (v.chip.blocks.xs.length + 1, x31.1, ⟨x31.2, v.at_.xs⟩, v.gen, v.last, false) ⟨by rw [hp31]; rfl, by rw [hp31]; exact hwr, rfl, by rw [hp31]; exact .rfl' _, by simp only; omega⟩ (Sub.cons rfl (Sub.cons rfl (Sub.cons rfl (Sub.nil _)))) (fun w hw => Keep.mem (frzI (a := (⟨x31.2, v.at_.xs⟩ : Sl Int)) (Keep.mem hw : Mem _ [own iec 1 x31.2 v.at_.xs, blk b33 (wtcells (⟨⟨x31.1, ⟨x31.2, v.at_.xs⟩, v.gen, v.last⟩, false⟩ : Wtr)) 141, fz x31.1, blk b4 (vlcells zVol) 29] _))) ?_
   rintro ⟨n, c, a, g, q, y⟩ ⟨hi1, hi2, hi3, hi4, hi5⟩
   dsimp only
   simp only at hi1 hi2 hi3 hi4 hi5
   have hbc := bads_le (cv c)
   have hlc : (cv c).blocks.length = (cv v.chip).blocks.length := hi4.len
   have hfw : a.xs.length ≤ 64 := hi2.few
   have hids2 : ∀ x ∈ it.xs, 0 ≤ x.id ∧ x.id < a.xs.length ∧ x.id < 64 := fun x hx => by have := hids x hx; omega
   obtain ⟨r, rfl⟩ : ∃ r, n = r + 1 := ⟨n - 1, by omega⟩
   refine cw_block ?_
   refine cw_seq ?_
   refine cw_region ?_
   refine sq_r (ry_move rfl) ?_
   refine sq_y (yl_callC rfl trivial) ?_
   refine sq_r (ry_assign rfl) ?_
   refine sq_nil ?_
   refine ex_then ?_
   refine cw_seq ?_
   refine cw_region ?_
   refine sq_r (ry_move rfl) ?_
   refine sq_r (ry_move rfl) ?_
   refine sq_callC rfl ⟨hi2, hil, hids2⟩ fun x38 hp38 => ?_
   have hb := batch_ok (l := (it.xs.map itv)) hi2
   rw [← hp38] at hb
   refine sq_r (ry_assign rfl) ?_
   refine sq_nil ?_
   refine ex_then ?_
   refine cw_seq ?_
   refine cw_seq ?_
   refine cw_region ?_
   refine sq_r (ry_move rfl) ?_
   refine sq_r (ry_int rfl rfl rfl) ?_
   refine sq_r (ry_move rfl) ?_
   refine sq_gt rfl rfl rfl (fun hg => (Ry.yl (ry_move rfl))) ?_
   refine sq_gt rfl rfl rfl (fun hg => yl_callC (evl_cons (ev_c hg rfl) evl_nil) trivial) ?_
   refine sq_gt rfl rfl rfl (fun hg => (Ry.yl (ry_move rfl))) ?_
   refine sq_gt rfl rfl rfl (fun hg => (Ry.yl (ry_int (ev_c hg rfl) (ev_c hg rfl) rfl))) ?_
   refine sq_r (ry_and rfl rfl rfl) ?_
   refine sq_nil ?_
   refine ex_then ?_
   refine cw_cond rfl (fun h2 => ?_) (fun h2 => ?_)
   ·
    try simp only [Z0, Z1, Z2, Z3, Z4, Z5, Z6, Z7, Z8, Z9] at h2
    have h2d : (batchF (⟨⟨cv c, a.xs, g.toNat, q⟩, y⟩ : WV) (it.xs.map itv)).2 = 5 ∧ badsF (cv c) < badsF (batchF (⟨⟨cv c, a.xs, g.toNat, q⟩, y⟩ : WV) (it.xs.map itv)).1.v.chip := ⟨h2.1, by rw [← hp38]; show badsF (cv c) < badsF (cv x38.1); omega⟩
    refine cw_exit ?_
    refine ex_pass_exit ?_
    refine ex_block_hit ?_
    exact ex_again (x := (r + 1, c, a, g, q, y)) (r, x38.1, x38.2.1, x38.2.2.1, x38.2.2.2.1, x38.2.2.2.2) ⟨by rw [hi1, tryTo, if_pos h2d, ← hp38], hb.ok, hb.atl.trans hi3, hi4.trans hb.like, by have := h2d.2; rw [← hp38] at this; change badsF (cv c) < badsF (cv x38.1) at this; simp only; omega⟩ (by simp only; omega) (Sub.cons rfl (Sub.cons rfl (Sub.cons rfl (Sub.nil _)))) (fun w hw => Keep.mem hw)
   ·
    try simp only [Z0, Z1, Z2, Z3, Z4, Z5, Z6, Z7, Z8, Z9] at h2
    have h2d : ¬ ((batchF (⟨⟨cv c, a.xs, g.toNat, q⟩, y⟩ : WV) (it.xs.map itv)).2 = 5 ∧ badsF (cv c) < badsF (batchF (⟨⟨cv c, a.xs, g.toNat, q⟩, y⟩ : WV) (it.xs.map itv)).1.v.chip) := by
     rw [← hp38]
     rintro ⟨ga, gb⟩
     change badsF (cv c) < badsF (cv x38.1) at gb
     rcases h2 with h | h
     ·
      exact h ga
     ·
      omega
    have hE2 : (tryTo (v.chip.blocks.xs.length + 1) (⟨vv v, false⟩ : WV) (it.xs.map itv)) = batchF (⟨⟨cv c, a.xs, g.toNat, q⟩, y⟩ : WV) (it.xs.map itv) := by rw [hi1, tryTo, if_neg h2d]
    refine cw_skip ?_
    refine ex_then ?_
    refine cw_seq ?_
    refine cw_region ?_
    refine sq_r (ry_move rfl) ?_
    refine sq_r (ry_nilp rfl) ?_
    refine sq_r (ry_field (o' := 0) rfl rfl) ?_
    refine sq_r (Ry.to (v' := .agg (vlcells (⟨x38.1, x38.2.1, x38.2.2.1, x38.2.2.2.1⟩ : Vol))) (ry_part rfl) rfl) ?_
    refine sq_r (ry_move rfl) ?_
    refine sq_storeW rfl rfl ?_
    refine sq_r (ry_assign rfl) ?_
    refine sq_nil ?_
    refine ex_then ?_
    refine cw_ret ?_
    refine ex_block_ret ?_
    refine ex_pass_ret ?_
    refine ex_block_ret ?_
    refine ex_ret (.inl rfl) (res_2 rfl (rv_agg rfl) (rv_tmp rfl)) (fun w1 hw => ?_)
    exact ⟨(x38.1, x38.2.1, x38.2.2.1, x38.2.2.2.1), by rw [hE, hE2], by rw [hE, hE2, ← hp38], Keep.mem hw⟩
instance fwrite_i {w0 : World} {L : List Ent} {v : Vol} {it : Sl It} [hv : HdD w0 L v] [hit : HdD w0 L it] : FnC Tryz.prog 41 w0 L [.agg (vlcells v), it.sv.val] (Cp × Sl Int × UInt64 × Int) (fun zz => .tuple #[.agg (vlcells (⟨zz.1, zz.2.1, zz.2.2.1, zz.2.2.2⟩ : Vol)), .int .i64 ((volWrite (vv v) (it.xs.map itv)).2)]) (fun zz => fz zz.1 :: fz zz.2.1 :: L) (fun zz => (⟨cv zz.1, zz.2.1.xs, zz.2.2.1.toNat, zz.2.2.2⟩ : VV) = (volWrite (vv v) (it.xs.map itv)).1) (smallC v.chip ∧ v.at_.xs.length ≤ 1000000 ∧ it.xs.length ≤ 1000000) := ⟨fun hp w hw => (fwrite_c w v it (hv.h w hw) (hit.h w hw) hp).mono fun e w' ⟨x, h1, h2, h3⟩ => ⟨x, h1, h2, hw.call h3⟩⟩
theorem fformat_c (w : World) (c : Cp) (n : Int) (hc : Deep.good (hp w) c) (hpre : smallC c) : Calls Tryz.prog 40 #[.agg (cpcells c), .int .i64 n] w fun e w' => ∃ zz : Cp × Sl Int × UInt64 × Int, e = .returned (.tuple #[.agg (vlcells (⟨zz.1, zz.2.1, zz.2.2.1, zz.2.2.2⟩ : Vol)), .int .i64 ((volFormat (cv c) n).2)]) ∧ ((⟨cv zz.1, zz.2.1.xs, zz.2.2.1.toNat, zz.2.2.2⟩ : VV) = (volFormat (cv c) n).1) ∧ Mem w [fz zz.1, fz zz.2.1] w' := by
 have ghc : GvD w c := ⟨hc⟩
 have hsm : smallC c := hpre
 refine calls_of (args := [_, _]) Tryz.func40 rfl Tryz.ntmps40 rfl ?_
 change Cw _ _ _ _ _ [(0, .agg (cpcells c)), (1, .int .i64 n)] []
 refine cw_seq ?_
 refine cw_region ?_
 refine sq_boxA rfl fun b2 => ?_
 refine sq_allocA fun b4 => ?_
 refine sq_r (ry_assign rfl) ?_
 refine sq_nil ?_
 refine ex_then ?_
 refine cw_seq ?_
 refine cw_seq ?_
 refine cw_region ?_
 refine sq_r (ry_whole rfl) ?_
 refine sq_y (yl_callC rfl trivial) ?_
 refine sq_r (ry_not rfl) ?_
 refine sq_r (ry_move rfl) ?_
 refine sq_gf rfl rfl rfl (fun hg => (Ry.yl (ry_move rfl))) ?_
 refine sq_gf rfl rfl rfl (fun hg => (Ry.yl (ry_int (ev_c hg rfl) rfl rfl))) ?_
 refine sq_r (ry_or rfl rfl rfl) ?_
 refine sq_r (ry_move rfl) ?_
 refine sq_gf rfl rfl rfl (fun hg => (Ry.yl (ry_move rfl))) ?_
 refine sq_gf rfl rfl rfl (fun hg => (Ry.yl (ry_field (o' := 1) rfl rfl))) ?_
 refine sq_gf rfl rfl rfl (fun hg => (Ry.yl (ry_cellc (ev_c hg rfl)))) ?_
 refine sq_gf rfl rfl rfl (fun hg => yl_callC (evl_cons (ev_c hg rfl) evl_nil) trivial) ?_
 refine sq_gf rfl rfl rfl (fun hg => (Ry.yl (ry_int (ev_c hg rfl) (ev_c hg rfl) rfl))) ?_
 refine sq_r (ry_or rfl rfl rfl) ?_
 refine sq_nil ?_
 refine ex_then ?_
 refine cw_cond rfl (fun h0 => ?_) (fun h0 => ?_)
 ·
  try simp only [Z0, Z1, Z2, Z3, Z4, Z5, Z6, Z7, Z8, Z9] at h0
  have hE : (volFormat (cv c) n) = (⟨cv c, [], 0, 0⟩, 1) := by
   rw [volFormat, if_pos]
   rintro ⟨g1, g2, g3⟩
   rcases h0 with (h | h) | h
   ·
    rw [g1] at h; cases h
   ·
    omega
   ·
    change _ ≤ mostF c.size at g3; omega
  refine cw_seq ?_
  refine cw_region ?_
  refine sq_r (ry_whole rfl) ?_
  refine sq_callC rfl (by assumption) fun x23 hp23 => ?_
  refine sq_r (ry_build (v := .agg (vlcells (⟨x23, ⟨Sv.none, []⟩, 0, 0⟩ : Vol))) rfl (vl_build x23)) ?_
  refine sq_storeW rfl rfl ?_
  refine sq_r (ry_assign rfl) ?_
  refine sq_nil ?_
  refine ex_then ?_
  refine cw_ret ?_
  refine ex_pass_ret ?_
  refine ex_ret (.inl rfl) (res_2 rfl (rv_agg rfl) (rv_tmp rfl)) (fun w1 hw => ?_)
  exact ⟨(x23, ⟨Sv.none, []⟩, 0, 0), by rw [hE], by rw [hE, hp23]; rfl, Keep.mem (frzNilI (Keep.mem hw : Mem w [fz x23] _))⟩
 ·
  try simp only [Z0, Z1, Z2, Z3, Z4, Z5, Z6, Z7, Z8, Z9] at h0
  have hq : bearsF (cv c) = true ∧ 1 ≤ n ∧ n ≤ mostF (cv c).size := ⟨h0.1.1, by omega, by show n ≤ mostF c.size; omega⟩
  obtain ⟨e1, e2, e3, e4⟩ := bearsF_iff.1 hq.1
  have hmm := mostF_le (cv c).size
  have hwr : WrOk (⟨⟨cv c, [], 0, 0⟩, false⟩ : WV) := ⟨e1, e2, e3, e4, .inl rfl, (by show (0 : Nat) < _; omega), (fun n hn => by cases hn), (by show (0 : Nat) ≤ 64; omega)⟩
  refine cw_skip ?_
  refine ex_then ?_
  refine cw_seq ?_
  refine cw_seq ?_
  refine cw_region ?_
  refine sq_r (ry_field (o' := 4) rfl rfl) ?_
  refine sq_r (ry_cellc rfl) ?_
  refine sq_nil ?_
  refine ex_then ?_
  refine cw_cond rfl (fun h1 => ?_) (fun h1 => ?_)
  ·
   try simp only [Z0, Z1, Z2, Z3, Z4, Z5, Z6, Z7, Z8, Z9] at h1
   have hE : (volFormat (cv c) n) = (⟨cv c, [], 0, 0⟩, 7) := by rw [volFormat, if_neg (fun h => h hq), if_pos (show (cv c).off = true from h1)]
   refine cw_seq ?_
   refine cw_region ?_
   refine sq_r (ry_whole rfl) ?_
   refine sq_callC rfl (by assumption) fun x28 hp28 => ?_
   refine sq_r (ry_build (v := .agg (vlcells (⟨x28, ⟨Sv.none, []⟩, 0, 0⟩ : Vol))) rfl (vl_build x28)) ?_
   refine sq_storeW rfl rfl ?_
   refine sq_r (ry_assign rfl) ?_
   refine sq_nil ?_
   refine ex_then ?_
   refine cw_ret ?_
   refine ex_pass_ret ?_
   refine ex_ret (.inl rfl) (res_2 rfl (rv_agg rfl) (rv_tmp rfl)) (fun w1 hw => ?_)
   exact ⟨(x28, ⟨Sv.none, []⟩, 0, 0), by rw [hE], by rw [hE, hp28]; rfl, Keep.mem (frzNilI (Keep.mem hw : Mem w [fz x28] _))⟩
  ·
   try simp only [Z0, Z1, Z2, Z3, Z4, Z5, Z6, Z7, Z8, Z9] at h1
   have hE1 : (volFormat (cv c) n) = (if (fmtW (cv c) n).2 ≠ 0 then (⟨(fmtW (cv c) n).1.v.chip, [], 0, 0⟩, (fmtW (cv c) n).2) else ((fmtW (cv c) n).1.v, 0)) := by rw [volFormat, if_neg (fun h => h hq), if_neg (show ¬ (cv c).off = true by rw [show (cv c).off = c.off from rfl, h1]; simp)]
   refine cw_skip ?_
   refine ex_then ?_
   refine cw_seq ?_
   refine cw_region ?_
   refine sq_r (ry_whole rfl) ?_
   refine sq_callC rfl (by assumption) fun x31 hp31 => ?_
   refine sq_r (ry_build (v := .agg (vlcells (⟨x31, ⟨Sv.none, []⟩, 0, 0⟩ : Vol))) rfl (vl_build x31)) ?_
   refine sq_r (ry_build (v := .agg (wtcells (⟨(⟨x31, ⟨Sv.none, []⟩, 0, 0⟩ : Vol), false⟩ : Wtr))) rfl (wt_build _)) ?_
   refine sq_boxA rfl fun b34 => ?_
   refine sq_r (ry_assign rfl) ?_
   refine sq_nil ?_
   refine ex_then ?_
   refine cw_seq ?_
   refine cw_seq ?_
   refine cw_mem [blk b34 (wtcells (⟨⟨x31, ⟨Sv.none, []⟩, 0, 0⟩, false⟩ : Wtr)) 141, fz x31, fz (⟨Sv.none, []⟩ : Sl Int), blk b4 (vlcells zVol) 29] (fun w hw => Keep.mem (frzNilI (Keep.mem hw : Mem _ [blk b34 (wtcells (⟨⟨x31, ⟨Sv.none, []⟩, 0, 0⟩, false⟩ : Wtr)) 141, fz x31, blk b4 (vlcells zVol) 29] _))) ?_
   refine cw_region ?_
   refine sq_r (ry_move rfl) ?_
   refine sq_r (ry_move rfl) ?_
   refine sq_callC rfl ⟨by rw [hp31]; exact hwr, by omega, by omega⟩ fun x37 hp37 => ?_
   have hfw : (⟨⟨cv x37.1, x37.2.1.xs, x37.2.2.1.toNat, x37.2.2.2⟩, false⟩ : WV) = (fmtW (cv c) n).1 := by rw [hp37, fmtW, ← hp31]; rfl
   refine sq_r (ry_assign rfl) ?_
   refine sq_nil ?_
   refine ex_then ?_
   refine cw_seq ?_
   refine cw_region ?_
   refine sq_r (ry_move rfl) ?_
   refine sq_r (ry_int rfl rfl rfl) ?_
   refine sq_nil ?_
   refine ex_then ?_
   refine cw_cond rfl (fun h2 => ?_) (fun h2 => ?_)
   ·
    try simp only [Z0, Z1, Z2, Z3, Z4, Z5, Z6, Z7, Z8, Z9] at h2
    have hE : (volFormat (cv c) n) = (⟨(fmtW (cv c) n).1.v.chip, [], 0, 0⟩, (fmtW (cv c) n).2) := by rw [hE1, if_pos (by rw [fmtW, ← hp31]; exact h2)]
    refine cw_seq ?_
    refine cw_region ?_
    refine sq_r (ry_move rfl) ?_
    refine sq_r (ry_nilp rfl) ?_
    refine sq_r (ry_field (o' := 0) rfl rfl) ?_
    refine sq_r (ry_field (o' := 0) rfl rfl) ?_
    refine sq_r (Ry.to (v' := .agg (cpcells x37.1)) (ry_part rfl) rfl) ?_
    refine sq_r (ry_build (v := .agg (vlcells (⟨x37.1, ⟨Sv.none, []⟩, 0, 0⟩ : Vol))) rfl (vl_build x37.1)) ?_
    refine sq_r (ry_move rfl) ?_
    refine sq_storeW rfl rfl ?_
    refine sq_r (ry_assign rfl) ?_
    refine sq_nil ?_
    refine ex_then ?_
    refine cw_ret ?_
    refine ex_pass_ret ?_
    refine ex_ret (.inl rfl) (res_2 rfl (rv_agg rfl) (rv_tmp rfl)) (fun w1 hw => ?_)
    exact ⟨(x37.1, ⟨Sv.none, []⟩, 0, 0), by rw [hE, fmtW, ← hp31]; rfl, by rw [hE, ← hfw]; rfl, Keep.mem (frzNilI (Keep.mem hw : Mem w [fz x37.1] _))⟩
   ·
    try simp only [Z0, Z1, Z2, Z3, Z4, Z5, Z6, Z7, Z8, Z9] at h2
    have hE : (volFormat (cv c) n) = ((fmtW (cv c) n).1.v, 0) := by rw [hE1, if_neg (by rw [fmtW, ← hp31]; exact fun h => h h2)]
    refine cw_skip ?_
    refine ex_then ?_
    refine cw_seq ?_
    refine cw_region ?_
    refine sq_r (ry_move rfl) ?_
    refine sq_r (ry_nilp rfl) ?_
    refine sq_r (ry_field (o' := 0) rfl rfl) ?_
    refine sq_r (Ry.to (v' := .agg (vlcells (⟨x37.1, x37.2.1, x37.2.2.1, x37.2.2.2⟩ : Vol))) (ry_part rfl) rfl) ?_
    refine sq_storeW rfl rfl ?_
    refine sq_r (ry_assign rfl) ?_
    refine sq_nil ?_
    refine ex_then ?_
    refine cw_ret ?_
    refine ex_ret (.inl rfl) (res_2 rfl (rv_agg rfl) (rv_tmp rfl)) (fun w1 hw => ?_)
    exact ⟨(x37.1, x37.2.1, x37.2.2.1, x37.2.2.2), by rw [hE], by rw [hE, ← hfw], Keep.mem hw⟩
instance fformat_i {w0 : World} {L : List Ent} {c : Cp} {n : Int} [hc : HdD w0 L c] : FnC Tryz.prog 40 w0 L [.agg (cpcells c), .int .i64 n] (Cp × Sl Int × UInt64 × Int) (fun zz => .tuple #[.agg (vlcells (⟨zz.1, zz.2.1, zz.2.2.1, zz.2.2.2⟩ : Vol)), .int .i64 ((volFormat (cv c) n).2)]) (fun zz => fz zz.1 :: fz zz.2.1 :: L) (fun zz => (⟨cv zz.1, zz.2.1.xs, zz.2.2.1.toNat, zz.2.2.2⟩ : VV) = (volFormat (cv c) n).1) (smallC c) := ⟨fun hp w hw => (fformat_c w c n (hc.h w hw) hp).mono fun e w' ⟨x, h1, h2, h3⟩ => ⟨x, h1, h2, hw.call h3⟩⟩

end Go.Proofs.YtaipiecplldinaaGreat

/- The law of flash: its fixed answer; what the two roads tell. -/
namespace Go.Kb
open Go.Eng
def aw1 : CV × Int := newF 5 2 24
def aw2 : VV × Int := volFormat aw1.1 3
def aw3 : VV × Int := volWrite aw2.1 [(1, [97, 98]), (2, [99])]
def aw4 : VV × Int := foundF aw3.1.chip
theorem aw1_ok : aw1 = (⟨2, 24, List.replicate 5 ⟨List.replicate 2 (blankP 24), 0, 0, false⟩, 0, false, []⟩, 0) := by decide +kernel
theorem aw2_ok : aw2.2 = 0 := by decide +kernel
theorem aw3_ok : aw3.2 = 0 := by decide +kernel
theorem aw4_ok : aw4.2 = 0 := by decide +kernel
theorem awG1 : getF aw4.1 1 = ([97, 98], 0) := by decide +kernel
theorem awG0 : (getF aw4.1 0).2 = 6 := by decide +kernel
theorem awR : rightF aw3.1 = true := by decide +kernel
theorem awK : (knownV aw3.1).length = 3 := by decide +kernel
theorem awL : limitF 5 2 = 2 := by decide +kernel
theorem foundF_zero {c : CV} (h : (foundF c).2 ≠ 0) : (foundF c).1 = zVV := by
 rw [foundF] at h ⊢
 repeat' split
 all_goals first | rfl | (exfalso; simp_all)
theorem foundF_if (c : CV) : (if (foundF c).2 = 0 then (foundF c).1 else zVV) = (foundF c).1 := by
 by_cases h : (foundF c).2 = 0
 ·
  rw [if_pos h]
 ·
  rw [if_neg h, foundF_zero h]
def livV (pages : Int) (l : List Int) (i : Nat) (n : Nat) : Nat := ((List.range n).filter fun j => decide (0 < l.getD j 0) && decide ((l.getD j 0 - 1) / pages = (i : Int) + 2)).length
theorem livV_succ (pages : Int) (l : List Int) (i n : Nat) : livV pages l i (n + 1) = livV pages l i n + (if decide (0 < l.getD n 0) && decide ((l.getD n 0 - 1) / pages = (i : Int) + 2) then 1 else 0) := by
 rw [livV, List.range_succ, List.filter_append, List.length_append, livV]
 congr 1
 simp only [List.filter_cons, List.filter_nil]
 split <;> rfl
theorem livV_le (pages : Int) (l : List Int) (i n : Nat) : livV pages l i n ≤ n := by
 rw [livV]
 exact Nat.le_trans (List.length_filter_le _ _) (by simp)
theorem livV_add {pages : Int} {l : List Int} {i n : Nat} {y : Int} (hy : l[n]? = some y) (h0 : 0 < y) (h1 : (y - 1) / pages = (i : Int) + 2) : livV pages l i (n + 1) = livV pages l i n + 1 := by
 rw [livV_succ, show l.getD n 0 = y by simp [List.getD, hy], decide_eq_true h0, decide_eq_true h1]; rfl
theorem livV_not {pages : Int} {l : List Int} {i n : Nat} {y : Int} (hy : l[n]? = some y) (h : ¬ (0 < y ∧ (y - 1) / pages = (i : Int) + 2)) : livV pages l i (n + 1) = livV pages l i n := by
 rw [livV_succ, show l.getD n 0 = y by simp [List.getD, hy], if_neg (by simp only [Bool.and_eq_true, decide_eq_true_eq]; exact h)]; rfl
theorem right_live {v : VV} (h : rightF v = true) (i : Nat) : liveF v.chip.pages v.at_ v.at_.length i = livV v.chip.pages v.at_ i v.at_.length := by
 obtain ⟨-, h2, h3⟩ := right_ok h
 rw [liveF, livV]
 congr 1
 refine List.filter_congr fun j hj => ?_
 have hj' : j < v.at_.length := List.mem_range.1 hj
 have hp := placedF_iff.1 h2 j hj'
 have hr := h3 (v.at_.getD j 0) (by rw [show v.at_.getD j 0 = v.at_[j] by simp [List.getD, hj']]; exact List.getElem_mem _)
 congr 1
 rw [plcAt] at hp
 rw [freshN]
 by_cases h0 : v.at_.getD j 0 = 0
 ·
  rw [h0]; simp
 ·
  rw [decide_eq_true h0, decide_eq_true (show 0 < v.at_.getD j 0 by omega)]
  rw [decide_eq_false h0, Bool.false_or, Bool.and_eq_true] at hp
  rw [hp.1]; rfl
theorem known_len {v : VV} (h : rightF v = true) : (knownV v).length = v.chip.blocks.length - 2 := by
 rw [knownV, if_pos h, knownF, knownTo_len]
theorem known_none {v : VV} (h : rightF v = false) : knownV v = [] := by
 rw [knownV, if_neg (by rw [h]; simp)]
theorem known_at {v : VV} (h : rightF v = true) {i : Nat} {x : Wea} (hx : (knownV v)[i]? = some x) : x = wearOf (blkAt v.chip ((i : Int) + 2)) (livV v.chip.pages v.at_ i v.at_.length) := by
 rw [knownV, if_pos h, knownF, knownTo, List.getElem?_map, Option.map_eq_some_iff] at hx
 obtain ⟨j, hj, rfl⟩ := hx
 have e := List.getElem?_eq_some_iff.1 hj
 obtain rfl : i = j := by have := e.2; simpa using this
 rw [right_live h]
end Go.Kb

/- A constant text as bytes: a row that is built, and marked behind its end. -/
namespace Go.Eng
open Go.RowKit
section
variable {P : Program} {N : Fra} {w0 : World} {env : Env} {L : List Ent} {l : List Oper} {Q : Exit → Act → World → Prop} {rest : List Oper} {d : Option Tmp} {ty : TypeId} {ps : String} {af : Array Edge}
theorem sq_buildRow {α : Type} {enc : α → Array Value} {c : Nat} {t e : TypeId} {by' n : Nat} [ht : SlT P t e c by'] [he : Enc enc c] {ops : List (Nat × Operand)} {vals : List Value} (xs : List α) (hx : evp env ops = some (idx vals 0)) (hv : vals.map Value.cells = xs.map enc) (hn : xs.length = n) (hc : 0 < n * c) (h24 : n * c ≤ 16777216)
  (hk : ∀ b, Sq P N w0 l Q rest (putE env d (Sv.val ⟨false, b, 0, n, n, none⟩)) (blk b (flatR enc xs).toArray e :: L)) (hd : dstOk N d = true := by rfl) :
  Sq P N w0 l Q (⟨d, .buildSlice t n ops.toArray, ty, ps, af, none⟩ :: rest) env L :=
 sq_run rfl hd fun a w ha hw => by
  subst hn
  have e1 : (ops.toArray.map fun (p : Nat × Operand) => match p with | (i, x) => (i, a.eval x)) = (idx vals 0).toArray := by
   rw [← ha.evp hx]; simp
  refine ⟨_, _, _, ?_, hw.alloc (flatR enc xs).toArray e, hk _⟩
  simp only [execOp, e1, Sem.run_bind, run_buildSlice ht hv hc h24 w, Result.andThen, Sem.run_pure]; rfl
theorem run_markB {t e : TypeId} {b n : Nat} {cs : Array Value} (hd : P.underlying t = some (.slice e)) (he : P.underlying e = some (.int .u8)) (w : World) (hb : w.heap[b]? = some (.cells cs e (0, 0))) :
  (convert t t (.slice (some ⟨b, 0, none⟩) n n)).run P w = .ok (.slice (some ⟨b, 0, none⟩) n n) (w.freeze ⟨b, cs.size, none⟩ 1) := by
 have hsh : w.shape? b = some (e, cs.size) := by
  unfold World.shape?
  rw [hb]
 simp [convert, run_underlying hd, run_underlying he, markStringish, hsh]
theorem sq_markB {t e : TypeId} {x : Operand} {b n : Nat} {xs : List UInt8} (hd : P.underlying t = some (.slice e)) (he : P.underlying e = some (.int .u8)) (hx : ev env x = some (Sv.val ⟨false, b, 0, n, n, none⟩)) (hn : xs.length = n) (h24 : n ≤ 16777216)
  (hk : Sq P N w0 l Q rest (putE env d (Sv.val ⟨false, b, 0, n, n, none⟩)) (own benc 1 ⟨false, b, 0, n, n, none⟩ xs :: L)) (hdd : dstOk N d = true := by rfl) :
  Sq P N w0 l Q (⟨d, .convert t t x, ty, ps, af, none⟩ :: rest) env (blk b (flatR benc xs).toArray e :: L) :=
 sq_run rfl hdd fun a w ha hw => by
  subst hn
  have hb : w.heap[b]? = some (.cells (flatR benc xs).toArray e (0, 0)) := hw.block (i := 0) rfl
  have hlt : b < w.heap.size := (Array.getElem?_eq_some_iff.1 hb).1
  have hbb : w.heap[b] = .cells (flatR benc xs).toArray e (0, 0) := (Array.getElem?_eq_some_iff.1 hb).2
  have hsz : (flatR benc xs).toArray.size = xs.length := by simp [flatR_length (c := 1)]
  have hr := run_markB (P := P) (n := xs.length) hd he w hb
  have h0 : ∀ k, (w.freeze ⟨b, (flatR benc xs).toArray.size, none⟩ 1).heap[k]? = if k = b then some (.cells (flatR benc xs).toArray e ((flatR benc xs).toArray.size, (flatR benc xs).toArray.size + 1)) else w.heap[k]? := fun k => by
   unfold World.freeze
   rw [if_neg (by decide)]
   simp only [Array.getElem?_modify]
   by_cases hk : k = b
   ·
    subst hk
    rw [if_pos rfl, if_pos rfl, hb]; rfl
   ·
    rw [if_neg hk, if_neg (fun h => hk h.symm)]
  refine ⟨_, w.freeze ⟨b, (flatR benc xs).toArray.size, none⟩ 1, own benc 1 ⟨false, b, 0, xs.length, xs.length, none⟩ xs :: L, ?_, ?_, hk⟩
  ·
   show (execOp a.eval _).run P w = _
   simp only [execOp, ha.ev hx, Sem.run_bind]
   rw [show Sv.val ⟨false, b, 0, xs.length, xs.length, none⟩ = .slice (some ⟨b, 0, none⟩) xs.length xs.length from rfl, hr]
   rfl
  ·
   refine Mem.change (e' := own benc 1 ⟨false, b, 0, xs.length, xs.length, none⟩ xs) hw (i := 0) rfl (fun k hk => hk.2) (fun k hk => ?_) ?_ ?_ ?_
   ·
    rw [h0]; exact if_neg (show ¬ k = b from hk)
   ·
    unfold World.freeze; rw [if_neg (by decide)]; simp
   ·
    unfold World.freeze; rw [if_neg (by decide)]; exact ⟨rfl, rfl, rfl⟩
   ·
    have hbk := h0 b
    rw [if_pos rfl] at hbk
    refine ⟨rows_of ⟨(fun h => by cases h), Nat.le_refl _, by show xs.length ≤ _; omega, fun _ => rfl⟩ rfl hbk fun i x hi j hj => ?_, fun _ => ⟨rfl, _, _, _, hbk, by show 0 + xs.length * 1 ≤ _; omega, fun j hj h => by have := h.1; simp only at this; omega, fun h => by omega⟩⟩
    rw [← flatR_get (enc := benc) xs i x hi j hj]
    show (flatR benc xs).toArray[0 + i * 1 + j]? = _
    simp
end
end Go.Eng

/- Law 11, awake. -/
namespace Go.Proofs.YtaipiecplldinaaGreat
open Go.Eng Go.Kb
open Go.RowKit
theorem it_build (n : Int) (s : Sv) (xs : List UInt8) (w : World) : (Instr.build 102 #[(0, .int .i64 n), (1, s.val)]).run Tryz.prog w = .ok (.agg (icells ⟨n, ⟨s, xs⟩⟩)) w := by
 unfold icells
 obtain ⟨e, b, o, l, c, p⟩ := s
 cases e <;> kernel_rfl
instance {w0 : World} {L : List Ent} {n : Int} {a : Sl UInt8} [q : HdD w0 L a] : HdD w0 L (It.mk n a) := ⟨q.h⟩
theorem aw11_c (w : World)   : Calls Tryz.prog 10 #[] w fun e w' => e = .returned (.bool true) ∧ Mem w [] w' := by
 refine calls_of (args := []) Tryz.func10 rfl Tryz.ntmps10 rfl ?_
 change Cw _ _ _ _ _ [] []
 refine cw_seq ?_
 refine cw_region ?_
 refine sq_r (ry_assign rfl) ?_
 refine sq_nil ?_
 refine ex_then ?_
 refine cw_seq ?_
 refine cw_region ?_
 refine sq_callC rfl trivial fun x14 hp14 => ?_
 have e14 : cv x14 = aw1.1 := hp14
 have z14 : (newF 5 2 24).2 = 0 := by decide +kernel
 have sm14 : smallC x14 := small_of (by rw [e14, aw1_ok]; decide +kernel)
 refine sq_r (ry_move rfl) ?_
 refine sq_r (ry_extract (v := .agg (cpcells x14)) rfl rfl) ?_
 refine sq_r (ry_extract (v := .int .i64 ((newF 5 2 24).2)) rfl rfl) ?_
 refine sq_allocA fun b1 => ?_
 refine sq_storeW rfl rfl ?_
 refine sq_r (ry_assign rfl) ?_
 refine sq_nil ?_
 refine ex_then ?_
 refine cw_seq ?_
 refine cw_region ?_
 refine sq_r (ry_whole rfl) ?_
 refine sq_callC rfl sm14 fun x19 hp19 => ?_
 have e19 : vv (⟨x19.1, x19.2.1, x19.2.2.1, x19.2.2.2⟩ : Vol) = aw2.1 := by
  have h := hp19
  rw [e14] at h
  exact h
 have z19 : (volFormat (cv x14) 3).2 = 0 := by rw [e14]; exact aw2_ok
 have sm19 : smallC x19.1 := small_of (by rw [show cv x19.1 = aw2.1.chip from congrArg VV.chip e19]; decide +kernel)
 have ln19 : x19.2.1.xs.length ≤ 1000000 := by rw [show x19.2.1.xs = aw2.1.at_ from congrArg VV.at_ e19]; decide +kernel
 refine sq_r (ry_move rfl) ?_
 refine sq_r (ry_extract (v := .agg (vlcells (⟨x19.1, x19.2.1, x19.2.2.1, x19.2.2.2⟩ : Vol))) rfl rfl) ?_
 refine sq_r (ry_extract (v := .int .i64 ((volFormat (cv x14) 3).2)) rfl rfl) ?_
 refine sq_allocA fun b3 => ?_
 refine sq_storeW rfl rfl ?_
 refine sq_r (ry_assign rfl) ?_
 refine sq_nil ?_
 refine ex_then ?_
 refine cw_seq ?_
 refine cw_region ?_
 refine sq_r (ry_whole rfl) ?_
 refine sq_buildRow (enc := benc) (vals := [_, _]) [97, 98] rfl rfl rfl (by decide) (by decide) fun b24 => ?_
 refine sq_markB Tryz.underlying38 Tryz.underlying5 rfl rfl (by decide) ?_
 refine sq_r (ry_build (v := .agg (icells (⟨1, ⟨⟨false, b24, 0, 2, 2, none⟩, [97, 98]⟩⟩ : It))) rfl (it_build 1 ⟨false, b24, 0, 2, 2, none⟩ [97, 98])) ?_
 refine sq_buildRow (enc := benc) (vals := [_]) [99] rfl rfl rfl (by decide) (by decide) fun b27 => ?_
 refine sq_markB Tryz.underlying38 Tryz.underlying5 rfl rfl (by decide) ?_
 refine sq_r (ry_build (v := .agg (icells (⟨2, ⟨⟨false, b27, 0, 1, 1, none⟩, [99]⟩⟩ : It))) rfl (it_build 2 ⟨false, b27, 0, 1, 1, none⟩ [99])) ?_
 refine sq_buildSlice (enc := icells) (vals := [_, _]) [(⟨1, ⟨⟨false, b24, 0, 2, 2, none⟩, [97, 98]⟩⟩ : It), (⟨2, ⟨⟨false, b27, 0, 1, 1, none⟩, [99]⟩⟩ : It)] rfl rfl rfl (by decide) (by decide) fun b30 => ?_
 refine sq_callC (hc := fwrite_i (it := (⟨⟨false, b30, 0, 2, 2, none⟩, [(⟨1, ⟨⟨false, b24, 0, 2, 2, none⟩, [97, 98]⟩⟩ : It), (⟨2, ⟨⟨false, b27, 0, 1, 1, none⟩, [99]⟩⟩ : It)]⟩ : Sl It))) rfl ⟨sm19, ln19, by show 2 ≤ _; decide⟩ fun x31 hp31 => ?_
 have e31 : vv (⟨x31.1, x31.2.1, x31.2.2.1, x31.2.2.2⟩ : Vol) = aw3.1 := by
  have h := hp31
  rw [e19] at h
  exact h
 have z31 : (volWrite (vv (⟨x19.1, x19.2.1, x19.2.2.1, x19.2.2.2⟩ : Vol)) [itv (⟨1, ⟨⟨false, b24, 0, 2, 2, none⟩, [97, 98]⟩⟩ : It), itv (⟨2, ⟨⟨false, b27, 0, 1, 1, none⟩, [99]⟩⟩ : It)]).2 = 0 := by rw [e19]; exact aw3_ok
 have c31 : cv x31.1 = aw3.1.chip := congrArg VV.chip e31
 refine sq_r (ry_move rfl) ?_
 refine sq_r (ry_extract (v := .agg (vlcells (⟨x31.1, x31.2.1, x31.2.2.1, x31.2.2.2⟩ : Vol))) rfl rfl) ?_
 refine sq_r (ry_extract (v := .int .i64 ((volWrite (vv (⟨x19.1, x19.2.1, x19.2.2.1, x19.2.2.2⟩ : Vol)) [itv (⟨1, ⟨⟨false, b24, 0, 2, 2, none⟩, [97, 98]⟩⟩ : It), itv (⟨2, ⟨⟨false, b27, 0, 1, 1, none⟩, [99]⟩⟩ : It)]).2)) rfl rfl) ?_
 refine sq_allocA fun b5 => ?_
 refine sq_storeW rfl rfl ?_
 refine sq_r (ry_assign rfl) ?_
 refine sq_nil ?_
 refine ex_then ?_
 refine cw_seq ?_
 refine cw_region ?_
 refine sq_r (ry_field (o' := 0) rfl rfl) ?_
 refine sq_r (ry_part rfl) ?_
 refine sq_callC rfl trivial fun x37 hp37 => ?_
 have z37 : (foundF (cv x31.1)).2 = 0 := by rw [c31]; exact aw4_ok
 have e37 : vv x37 = aw4.1 := by
  have h := hp37
  rw [foundF_if] at h
  rw [h]
  exact congrArg (fun c => (foundF c).1) c31
 have ha37 : ∀ (L : List Ent) [Hd w L x37.at_.sv iec 1 x37.at_.xs], HdD w L x37.at_ := fun L q => ⟨fun w h => ⟨q.h w h, fun _ _ => trivial⟩⟩
 have hd37 : ∀ (L : List Ent) [HdD w L x37.chip] [HdD w L x37.at_], HdD w L x37 := fun L p q => ⟨fun w h => ⟨p.h w h, q.h w h⟩⟩
 refine sq_r (ry_move rfl) ?_
 refine sq_r (ry_extract (v := .agg (vlcells x37)) rfl rfl) ?_
 refine sq_r (ry_extract (v := .int .i64 ((foundF (cv ((⟨x31.1, x31.2.1, x31.2.2.1, x31.2.2.2⟩ : Vol).chip))).2)) rfl rfl) ?_
 refine sq_allocA fun b7 => ?_
 refine sq_storeW rfl rfl ?_
 refine sq_r (ry_assign rfl) ?_
 refine sq_nil ?_
 refine ex_then ?_
 refine cw_seq ?_
 refine cw_region ?_
 refine sq_r (ry_whole rfl) ?_
 refine sq_callC rfl trivial fun x42 hp42 => ?_
 have z42 : (getF (vv x37) 1).2 = 0 := by rw [e37, awG1]
 refine sq_r (ry_move rfl) ?_
 refine sq_r (ry_extract (v := x42.val) rfl rfl) ?_
 refine sq_r (ry_extract (v := .int .i64 ((getF (vv x37) 1).2)) rfl rfl) ?_
 refine sq_r (ry_assign rfl) ?_
 refine sq_r (ry_assign rfl) ?_
 refine sq_nil ?_
 refine ex_then ?_
 refine cw_seq ?_
 refine cw_region ?_
 refine sq_r (ry_whole rfl) ?_
 refine sq_callC rfl trivial fun x47 hp47 => ?_
 have z47 : (getF (vv x37) 0).2 = 6 := by rw [e37]; exact awG0
 have z42b : (getF (vv x37) 1).1 = [97, 98] := by rw [e37, awG1]
 have z79 : rightF (vv (⟨x31.1, x31.2.1, x31.2.2.1, x31.2.2.2⟩ : Vol)) = true := by rw [e31]; exact awR
 have z84 : (knownV (vv (⟨x31.1, x31.2.1, x31.2.2.1, x31.2.2.2⟩ : Vol))).length = 3 := by rw [e31]; exact awK
 have z88 : limitF 5 2 = 2 := awL
 refine sq_r (ry_move rfl) ?_
 refine sq_r (ry_extract (v := x47.val) rfl rfl) ?_
 refine sq_r (ry_extract (v := .int .i64 ((getF (vv x37) 0).2)) rfl rfl) ?_
 refine sq_r (ry_assign rfl) ?_
 refine sq_r (ry_assign rfl) ?_
 refine sq_nil ?_
 refine ex_then ?_
 refine cw_seq ?_
 refine cw_region ?_
 refine sq_r (ry_move rfl) ?_
 refine sq_r (ry_int rfl rfl rfl) ?_
 refine sq_r (ry_move rfl) ?_
 refine sq_ty rfl rfl rfl (by simp [z14, z19, z31, z37, z42, z42b, z47, z79, z84, z88]) (Ry.yl (ry_move rfl)) ?_
 refine sq_ty rfl rfl rfl (by simp [z14, z19, z31, z37, z42, z42b, z47, z79, z84, z88]) (Ry.yl (ry_int rfl rfl rfl)) ?_
 refine sq_r (ry_pickT rfl (by simp [z14, z19, z31, z37, z42, z42b, z47, z79, z84, z88]) rfl rfl) ?_
 refine sq_r (ry_move rfl) ?_
 refine sq_ty rfl rfl rfl (by simp [z14, z19, z31, z37, z42, z42b, z47, z79, z84, z88]) (Ry.yl (ry_move rfl)) ?_
 refine sq_ty rfl rfl rfl (by simp [z14, z19, z31, z37, z42, z42b, z47, z79, z84, z88]) (Ry.yl (ry_int rfl rfl rfl)) ?_
 refine sq_r (ry_pickT rfl (by simp [z14, z19, z31, z37, z42, z42b, z47, z79, z84, z88]) rfl rfl) ?_
 refine sq_r (ry_move rfl) ?_
 refine sq_ty rfl rfl rfl (by simp [z14, z19, z31, z37, z42, z42b, z47, z79, z84, z88]) (Ry.yl (ry_move rfl)) ?_
 refine sq_ty rfl rfl rfl (by simp [z14, z19, z31, z37, z42, z42b, z47, z79, z84, z88]) (Ry.yl (ry_int rfl rfl rfl)) ?_
 refine sq_r (ry_pickT rfl (by simp [z14, z19, z31, z37, z42, z42b, z47, z79, z84, z88]) rfl rfl) ?_
 refine sq_r (ry_move rfl) ?_
 refine sq_ty rfl rfl rfl (by simp [z14, z19, z31, z37, z42, z42b, z47, z79, z84, z88]) (Ry.yl (ry_move rfl)) ?_
 refine sq_ty rfl rfl rfl (by simp [z14, z19, z31, z37, z42, z42b, z47, z79, z84, z88]) (Ry.yl (ry_int rfl rfl rfl)) ?_
 refine sq_r (ry_pickT rfl (by simp [z14, z19, z31, z37, z42, z42b, z47, z79, z84, z88]) rfl rfl) ?_
 refine sq_r (ry_move rfl) ?_
 refine sq_ty rfl rfl rfl (by simp [z14, z19, z31, z37, z42, z42b, z47, z79, z84, z88]) (Ry.yl (ry_move rfl)) ?_
 refine sq_ty rfl rfl rfl (by simp [z14, z19, z31, z37, z42, z42b, z47, z79, z84, z88]) (Ry.yl (ry_bstrH Tryz.underlying38 Tryz.underlying5 Tryz.underlying9 rfl)) ?_
 refine sq_ty rfl rfl rfl (by simp [z14, z19, z31, z37, z42, z42b, z47, z79, z84, z88]) (Ry.yl (ry_streqL rfl rfl)) ?_
 refine sq_r (ry_pickT rfl (by simp [z14, z19, z31, z37, z42, z42b, z47, z79, z84, z88]) rfl rfl) ?_
 refine sq_r (ry_move rfl) ?_
 refine sq_ty rfl rfl rfl (by simp [z14, z19, z31, z37, z42, z42b, z47, z79, z84, z88]) (Ry.yl (ry_move rfl)) ?_
 refine sq_ty rfl rfl rfl (by simp [z14, z19, z31, z37, z42, z42b, z47, z79, z84, z88]) (Ry.yl (ry_int rfl rfl rfl)) ?_
 refine sq_r (ry_pickT rfl (by simp [z14, z19, z31, z37, z42, z42b, z47, z79, z84, z88]) rfl rfl) ?_
 refine sq_r (ry_move rfl) ?_
 refine sq_ty rfl rfl rfl (by simp [z14, z19, z31, z37, z42, z42b, z47, z79, z84, z88]) (Ry.yl (ry_whole rfl)) ?_
 refine sq_ty rfl rfl rfl (by simp [z14, z19, z31, z37, z42, z42b, z47, z79, z84, z88]) (yl_callC rfl trivial) ?_
 refine sq_r (ry_pickT rfl (by simp [z14, z19, z31, z37, z42, z42b, z47, z79, z84, z88]) rfl rfl) ?_
 refine sq_r (ry_move rfl) ?_
 refine sq_ty rfl rfl rfl (by simp [z14, z19, z31, z37, z42, z42b, z47, z79, z84, z88]) (Ry.yl (ry_whole rfl)) ?_
 refine sq_tcallC rfl rfl (by simp [z14, z19, z31, z37, z42, z42b, z47, z79, z84, z88]) rfl trivial fun x83 hp83 => ?_
 refine sq_ty rfl rfl rfl (by simp [z14, z19, z31, z37, z42, z42b, z47, z79, z84, z88]) (Ry.yl (ry_lenH rfl)) ?_
 refine sq_ty rfl rfl rfl (by simp [z14, z19, z31, z37, z42, z42b, z47, z79, z84, z88]) (Ry.yl (ry_int rfl rfl rfl)) ?_
 refine sq_r (ry_pickT rfl (by simp [z14, z19, z31, z37, z42, z42b, z47, z79, z84, z88]) rfl rfl) ?_
 refine sq_r (ry_move rfl) ?_
 refine sq_ty rfl rfl rfl (by simp [z14, z19, z31, z37, z42, z42b, z47, z79, z84, z88]) (yl_callC rfl trivial) ?_
 refine sq_ty rfl rfl rfl (by simp [z14, z19, z31, z37, z42, z42b, z47, z79, z84, z88]) (Ry.yl (ry_int rfl rfl rfl)) ?_
 refine sq_r (ry_pickT rfl (by simp [z14, z19, z31, z37, z42, z42b, z47, z79, z84, z88]) rfl rfl) ?_
 refine sq_r (ry_assign rfl) ?_
 refine sq_nil ?_
 refine ex_then ?_
 refine cw_ret ?_
 refine ex_ret (.inl rfl) (res_1 rfl (rv_tmp rfl)) (fun w1 hw => ?_)
 exact ⟨congrArg (fun b => Ending.returned (Value.bool b)) ((by simp [z88])), Keep.mem hw⟩
instance aw11_i {w0 : World} {L : List Ent}   : FnQ Tryz.prog 10 w0 L [] (.bool true) (True) := ⟨fun hp w hw => aw11_c w  ⟩

end Go.Proofs.YtaipiecplldinaaGreat

/- Law 11, walked. -/
namespace Go.Proofs.YtaipiecplldinaaGreat
open Go.Eng Go.Kb
open Go.RowKit
theorem stoodWe : Tryz.prog.stoodInHeld 50 = false := by kernel_rfl
theorem partWe (d : Nat) : PartT Tryz.prog (d + 1 + 1 + 1 + 1 + 1) 50 true ([0] ++ ([0] ++ ([0] ++ ([1] ++ [])))) := ⟨⟨_, Tryz.underlying50, rfl⟩, by kernel_rfl, (fun h => by cases h),
 eqF_struct Tryz.underlying50 stoodWe ⟨by decide, rfl, _, _, _, rfl, part3 _, by decide, rfl, _, _, _, rfl, part3 _, by decide, rfl, _, _, _, rfl, part3 _, by decide, rfl, _, _, _, rfl, partFB _, rfl⟩⟩
theorem guardWe : Tryz.prog.eqGuardType Tryz.prog.depth 50 = false := by kernel_rfl
theorem weacells_inj {a b : Wea} : weacells a = weacells b ↔ a = b := by
 constructor
 ·
  intro h
  obtain ⟨a1, a2, a3, a4⟩ := a
  obtain ⟨b1, b2, b3, b4⟩ := b
  simp only [weacells, Array.mk.injEq, List.cons.injEq, Value.int.injEq, Value.bool.injEq, true_and, and_true] at h
  obtain ⟨h1, h2, h3, h4⟩ := h
  subst h1 h2 h3 h4; rfl
 ·
  rintro rfl; rfl
instance (a b : Wea) : EqV Tryz.prog 50 (.agg (weacells a)) (.agg (weacells b)) (decide (a = b)) :=
 (partWe 9995).eq.val rfl guardWe rfl rfl (fun i k hk => by
  have hi : i < 4 := (List.getElem?_eq_some_iff.1 hk).1
  match i, hi with
  | 0, _ => obtain rfl : 0 = k := Option.some.inj hk; exact ⟨_, _, rfl, rfl, rfl⟩
  | 1, _ => obtain rfl : 0 = k := Option.some.inj hk; exact ⟨_, _, rfl, rfl, rfl⟩
  | 2, _ => obtain rfl : 0 = k := Option.some.inj hk; exact ⟨_, _, rfl, rfl, rfl⟩
  | 3, _ => obtain rfl : 1 = k := Option.some.inj hk; exact ⟨_, _, rfl, rfl, trivial⟩) (by rw [decide_eq_true_iff]; exact weacells_inj)
theorem wea_build2 (l u v : Int) (b : Bool) (w : World) : (Instr.build 50 #[(0, .int .i64 l), (1, .int .i64 u), (2, .int .i64 v), (3, .bool b)]).run Tryz.prog w = .ok (.agg (weacells ⟨l, u, v, b⟩)) w := by
 unfold weacells
 cases b <;> kernel_rfl
theorem hd_cp {w : World} {L : List Ent} {c d : Cp} [q : HdD w L c] (h : d = c ∨ d = zCp) : HdD w L d := by
 rcases h with rfl | rfl
 ·
  exact q
 ·
  exact ⟨fun _ _ => ⟨good_none, good_none⟩⟩
theorem hd_get {w : World} {L : List Ent} {v : Vol} {p : Pge} [q : HdD w L v] (h : p = zPge ∨ ∃ B z, B ∈ v.chip.blocks.xs ∧ z ∈ B.pages.xs ∧ p = refPg z.sv z.xs) : Hd w L p.body.sv benc 1 p.body.xs := by
 rcases h with rfl | ⟨B, z, hB, hz, rfl⟩
 ·
  exact ⟨fun _ _ => Lies.nil _ _ _⟩
 ·
  have : HdD w L z := ⟨fun w' hw' => ((q.h w' hw').1.1.2 B hB).2 z hz⟩
  have : HdD w L (refPg z.sv z.xs) := inferInstance
  exact inferInstance
theorem flashMounts_c (w : World) (c : Cp) (v : Vol) (id : Int) (hc : Deep.good (hp w) c) (hv : Deep.good (hp w) v) : Calls Tryz.prog 3 #[.agg (cpcells c), .agg (vlcells v), .int .i64 id] w fun e w' => e = .returned (.bool true) ∧ Mem w [] w' := by
 have ghc : GvD w c := ⟨hc⟩
 have ghv : GvD w v := ⟨hv⟩
 refine calls_of (args := [_, _, _]) Tryz.func3 rfl Tryz.ntmps3 rfl ?_
 change Cw _ _ _ _ _ [(0, .agg (cpcells c)), (1, .agg (vlcells v)), (2, .int .i64 id)] []
 refine cw_seq ?_
 refine cw_region ?_
 refine sq_boxA rfl fun b3 => ?_
 refine sq_boxA rfl fun b4 => ?_
 refine sq_r (ry_assign rfl) ?_
 refine sq_nil ?_
 refine ex_then ?_
 refine cw_seq ?_
 refine cw_seq ?_
 refine cw_region ?_
 refine sq_y (yl_callC rfl trivial) ?_
 refine sq_r (ry_not rfl) ?_
 refine sq_nil ?_
 refine ex_then ?_
 refine cw_cond rfl (fun h0 => ?_) (fun h0 => ?_)
 ·
  exfalso; simp at h0
 ·
  try simp only [Z0, Z1, Z2, Z3, Z4, Z5, Z6, Z7, Z8, Z9] at h0
  refine cw_skip ?_
  refine ex_then ?_
  refine cw_seq ?_
  refine cw_seq ?_
  refine cw_region ?_
  refine sq_r (ry_whole rfl) ?_
  refine sq_y (yl_callC rfl trivial) ?_
  refine sq_r (ry_not rfl) ?_
  refine sq_r (ry_move rfl) ?_
  refine sq_gf rfl rfl rfl (fun hg => (Ry.yl (ry_field (o' := 0) rfl rfl))) ?_
  refine sq_gf rfl rfl rfl (fun hg => (Ry.yl (ry_part (ev_c hg rfl)))) ?_
  refine sq_gf rfl rfl rfl (fun hg => yl_callC (evl_cons (ev_c hg rfl) evl_nil) trivial) ?_
  refine sq_gf rfl rfl rfl (fun hg => (Ry.yl (ry_not (ev_c hg rfl)))) ?_
  refine sq_r (ry_or rfl rfl rfl) ?_
  refine sq_r (ry_move rfl) ?_
  refine sq_gf rfl rfl rfl (fun hg => (Ry.yl (ry_field (o' := 6) rfl rfl))) ?_
  refine sq_gf rfl rfl rfl (fun hg => (Ry.yl (ry_cellc (ev_c hg rfl)))) ?_
  refine sq_gf rfl rfl rfl (fun hg => (Ry.yl (ry_lenH (ev_c hg rfl)))) ?_
  refine sq_gf rfl rfl rfl (fun hg => (Ry.yl (ry_int (ev_c hg rfl) rfl rfl))) ?_
  refine sq_r (ry_or rfl rfl rfl) ?_
  refine sq_nil ?_
  refine ex_then ?_
  refine cw_cond rfl (fun h1 => ?_) (fun h1 => ?_)
  ·
   try simp only [Z0, Z1, Z2, Z3, Z4, Z5, Z6, Z7, Z8, Z9] at h1
   refine cw_seq ?_
   refine cw_region ?_
   refine sq_r (ry_assign rfl) ?_
   refine sq_nil ?_
   refine ex_then ?_
   refine cw_ret ?_
   refine ex_pass_ret ?_
   refine ex_ret (.inl rfl) (res_1 rfl (rv_tmp rfl)) (fun w1 hw => ?_)
   exact ⟨congrArg (fun b => Ending.returned (Value.bool b)) (rfl), Keep.mem hw⟩
  ·
   try simp only [Z0, Z1, Z2, Z3, Z4, Z5, Z6, Z7, Z8, Z9] at h1
   have hsv := (shortF_iff.1 h1.1.2).1
   rw [show (cv v.chip).blocks.length = v.chip.blocks.xs.length from bvs_length _] at hsv
   refine cw_skip ?_
   refine ex_then ?_
   refine cw_seq ?_
   refine cw_region ?_
   refine sq_r (ry_whole rfl) ?_
   refine sq_callC rfl trivial fun x40 hp40 => ?_
   have e40 : vv x40 = (foundF (cv c)).1 := by have h := hp40; rw [foundF_if] at h; exact h
   have ha40 : ∀ (L : List Ent) [Hd w L x40.at_.sv iec 1 x40.at_.xs], HdD w L x40.at_ := fun L q => ⟨fun w h => ⟨q.h w h, fun _ _ => trivial⟩⟩
   have hd40 : ∀ (L : List Ent) [HdD w L x40.chip] [HdD w L x40.at_], HdD w L x40 := fun L p q => ⟨fun w h => ⟨p.h w h, q.h w h⟩⟩
   refine sq_r (ry_move rfl) ?_
   refine sq_r (ry_extract (v := .agg (vlcells x40)) rfl rfl) ?_
   refine sq_r (ry_extract (v := .int .i64 ((foundF (cv c)).2)) rfl rfl) ?_
   refine sq_allocA fun b7 => ?_
   refine sq_storeW rfl rfl ?_
   refine sq_r (ry_assign rfl) ?_
   refine sq_nil ?_
   refine ex_then ?_
   refine cw_seq ?_
   refine cw_region ?_
   refine sq_r (ry_whole rfl) ?_
   refine sq_callC rfl trivial fun x45 hp45 => ?_
   have hc45 : ∀ (L : List Ent), HdD w L x45.chip := fun L => hd_cp (c := c) hp45.2
   have ha45 : ∀ (L : List Ent) [Hd w L x45.at_.sv iec 1 x45.at_.xs], HdD w L x45.at_ := fun L q => ⟨fun w h => ⟨q.h w h, fun _ _ => trivial⟩⟩
   have hd45 : ∀ (L : List Ent) [HdD w L x45.chip] [HdD w L x45.at_], HdD w L x45 := fun L p q => ⟨fun w h => ⟨p.h w h, q.h w h⟩⟩
   refine sq_r (ry_move rfl) ?_
   refine sq_r (ry_extract (v := .agg (vlcells x45)) rfl rfl) ?_
   refine sq_r (ry_extract (v := .int .i64 ((foundF (cv c)).2)) rfl rfl) ?_
   refine sq_allocA fun b9 => ?_
   refine sq_storeW rfl rfl ?_
   refine sq_r (ry_assign rfl) ?_
   refine sq_nil ?_
   refine ex_then ?_
   refine cw_seq ?_
   refine cw_seq ?_
   refine cw_region ?_
   refine sq_r (ry_whole rfl) ?_
   refine sq_r (ry_whole rfl) ?_
   refine sq_y (yl_callC rfl trivial) ?_
   refine sq_r (ry_not rfl) ?_
   refine sq_r (ry_move rfl) ?_
   refine sq_gf rfl rfl rfl (fun hg => (Ry.yl (ry_move rfl))) ?_
   refine sq_gf rfl rfl rfl (fun hg => (Ry.yl (ry_move rfl))) ?_
   refine sq_gf rfl rfl rfl (fun hg => (Ry.yl (ry_int (ev_c hg rfl) (ev_c hg rfl) rfl))) ?_
   refine sq_r (ry_or rfl rfl rfl) ?_
   refine sq_nil ?_
   refine ex_then ?_
   refine cw_cond rfl (fun h2 => ?_) (fun h2 => ?_)
   ·
    exfalso; rw [e40, hp45.1] at h2; simp at h2
   ·
    try simp only [Z0, Z1, Z2, Z3, Z4, Z5, Z6, Z7, Z8, Z9] at h2
    refine cw_skip ?_
    refine ex_then ?_
    refine cw_seq ?_
    refine cw_region ?_
    refine sq_r (ry_whole rfl) ?_
    refine sq_r (ry_move rfl) ?_
    refine sq_callC rfl trivial fun x60 hp60 => ?_
    refine sq_r (ry_move rfl) ?_
    refine sq_r (ry_extract (v := x60.val) rfl rfl) ?_
    refine sq_r (ry_extract (v := .int .i64 ((getF (vv v) id).2)) rfl rfl) ?_
    refine sq_r (ry_assign rfl) ?_
    refine sq_r (ry_assign rfl) ?_
    refine sq_nil ?_
    refine ex_then ?_
    refine cw_seq ?_
    refine cw_region ?_
    refine sq_r (ry_whole rfl) ?_
    refine sq_r (ry_move rfl) ?_
    refine sq_callC rfl trivial fun x66 hp66 => ?_
    have hc66 : ∀ (L : List Ent), Hd w L x66.body.sv benc 1 x66.body.xs := fun L => hd_get (v := v) hp66.2
    refine sq_r (ry_move rfl) ?_
    refine sq_r (ry_extract (v := x66.body.sv.val) rfl rfl) ?_
    refine sq_r (ry_extract (v := .int .i64 ((getF (vv v) id).2)) rfl rfl) ?_
    refine sq_r (ry_assign rfl) ?_
    refine sq_r (ry_assign rfl) ?_
    refine sq_nil ?_
    refine ex_then ?_
    refine cw_seq ?_
    refine cw_region ?_
    refine sq_r (ry_whole rfl) ?_
    refine sq_callC rfl trivial fun x70 hp70 => ?_
    refine sq_r (ry_assign rfl) ?_
    refine sq_nil ?_
    refine ex_then ?_
    refine cw_seq ?_
    refine cw_region ?_
    refine sq_r (ry_whole rfl) ?_
    refine sq_y (yl_callC rfl trivial) ?_
    refine sq_r (ry_assign rfl) ?_
    refine sq_nil ?_
    refine ex_then ?_
    refine cw_seq ?_
    refine cw_seq ?_
    refine cw_region ?_
    refine sq_r (ry_move rfl) ?_
    refine sq_r (ry_bstrH Tryz.underlying38 Tryz.underlying5 Tryz.underlying9 rfl) ?_
    refine sq_r (ry_move rfl) ?_
    refine sq_r (ry_bstrH Tryz.underlying38 Tryz.underlying5 Tryz.underlying9 rfl) ?_
    refine sq_r (ry_strneL rfl rfl) ?_
    refine sq_r (ry_move rfl) ?_
    refine sq_gf rfl rfl rfl (fun hg => (Ry.yl (ry_move rfl))) ?_
    refine sq_gf rfl rfl rfl (fun hg => (Ry.yl (ry_move rfl))) ?_
    refine sq_gf rfl rfl rfl (fun hg => (Ry.yl (ry_int (ev_c hg rfl) (ev_c hg rfl) rfl))) ?_
    refine sq_r (ry_or rfl rfl rfl) ?_
    refine sq_r (ry_move rfl) ?_
    refine sq_gf rfl rfl rfl (fun hg => (Ry.yl (ry_whole rfl))) ?_
    refine sq_gf rfl rfl rfl (fun hg => yl_callC (evl_cons (ev_c hg rfl) evl_nil) trivial) ?_
    refine sq_gf rfl rfl rfl (fun hg => (Ry.yl (ry_move rfl))) ?_
    refine sq_gf rfl rfl rfl (fun hg => (Ry.yl (ry_neb (ev_c hg rfl) (ev_c hg rfl) Tryz.underlying4))) ?_
    refine sq_r (ry_or rfl rfl rfl) ?_
    refine sq_r (ry_move rfl) ?_
    refine sq_gf rfl rfl rfl (fun hg => (Ry.yl (ry_move rfl))) ?_
    refine sq_gf rfl rfl rfl (fun hg => (Ry.yl (ry_not (ev_c hg rfl)))) ?_
    refine sq_gf rfl rfl rfl (fun hg => (Ry.yl (ry_move (ev_c hg rfl)))) ?_
    refine sq_nt rfl rfl rfl (fun hg => (Ry.yl (ry_move rfl))) ?_
    refine sq_nt rfl rfl rfl (fun hg => (Ry.yl (ry_lenH (ev_c hg rfl)))) ?_
    refine sq_nt rfl rfl rfl (fun hg => (Ry.yl (ry_int (ev_c hg rfl) rfl rfl))) ?_
    refine sq_gf rfl rfl rfl (fun hg => (Ry.yl (ry_and (ev_c hg rfl) (ev_cc hg rfl) rfl))) ?_
    refine sq_r (ry_or rfl rfl rfl) ?_
    refine sq_r (ry_move rfl) ?_
    refine sq_gf rfl rfl rfl (fun hg => (Ry.yl (ry_move rfl))) ?_
    refine sq_gf rfl rfl rfl (fun hg => (Ry.yl (ry_move (ev_c hg rfl)))) ?_
    refine sq_nt rfl rfl rfl (fun hg => (Ry.yl (ry_move rfl))) ?_
    refine sq_nt rfl rfl rfl (fun hg => (Ry.yl (ry_lenH (ev_c hg rfl)))) ?_
    refine sq_nt rfl rfl rfl (fun hg => (Ry.yl (ry_field (o' := 0) rfl rfl))) ?_
    refine sq_nt rfl rfl rfl (fun hg => (Ry.yl (ry_field (o' := 2) (ev_c hg rfl) rfl))) ?_
    refine sq_nt rfl rfl rfl (fun hg => (Ry.yl (ry_cellc (ev_c hg rfl)))) ?_
    refine sq_nt rfl rfl rfl (fun hg => (Ry.yl (ry_lenH (ev_c hg rfl)))) ?_
    refine sq_nt rfl rfl rfl (fun hg => (Ry.yl (ry_sub (ev_c hg rfl) rfl (by simp only [Z0, Z1, Z2, Z3, Z4, Z5, Z6, Z7, Z8, Z9] at hg; omega)))) ?_
    refine sq_nt rfl rfl rfl (fun hg => (Ry.yl (ry_int (ev_c hg rfl) (ev_c hg rfl) rfl))) ?_
    refine sq_gf rfl rfl rfl (fun hg => (Ry.yl (ry_and (ev_c hg rfl) (ev_cc hg rfl) rfl))) ?_
    refine sq_r (ry_or rfl rfl rfl) ?_
    refine sq_nil ?_
    refine ex_then ?_
    refine cw_cond rfl (fun h3 => ?_) (fun h3 => ?_)
    ·
     exfalso
     have hkl : rightF (vv v) = true → (knownV (vv v)).length = v.chip.blocks.xs.length - 2 := fun h => by rw [known_len h]; show (cv v.chip).blocks.length - 2 = _; rw [show (cv v.chip).blocks.length = v.chip.blocks.xs.length from bvs_length _]
     cases hR : rightF (vv v) with
     | false => rw [hR, known_none hR, hp66.1] at h3; simp at h3
     | true =>
      have hk9 := hkl hR
      have h49 : 4 ≤ v.chip.blocks.xs.length := by
       have h9 : 4 ≤ (cv v.chip).blocks.length := (right_wr (b := false) hR).len'
       rw [show (cv v.chip).blocks.length = v.chip.blocks.xs.length from bvs_length _] at h9
       exact h9
      rw [hR, hp66.1] at h3
      simp at h3
      omega
    ·
     try simp only [Z0, Z1, Z2, Z3, Z4, Z5, Z6, Z7, Z8, Z9] at h3
     refine cw_skip ?_
     refine ex_then ?_
     refine cw_seq ?_
     refine cw_seq ?_
     refine cw_region ?_
     refine sq_r (ry_assign rfl) ?_
     refine sq_nil ?_
     refine ex_then ?_
     refine cw_block ?_
     refine cw_loop (X := Nat) (fun zz => [(17, .int .i64 (zz : Nat)), (4, .pointer (some ⟨b4, 0, none⟩)), (15, x70.val)]) (fun zz => [own weacells 4 x70 (knownV (vv v)), blk b4 (vlcells v) 29]) (fun zz => zz ≤ (knownV (vv v)).length) (fun zz => (knownV (vv v)).length - zz) 0 (Nat.zero_le _) (Sub.cons rfl (Sub.cons rfl (Sub.cons rfl (Sub.nil _)))) (fun w hw => Keep.mem hw) ?_
     rintro i hi1
     refine cw_seq ?_
     refine cw_seq ?_
     refine cw_region ?_
     refine sq_r (ry_move rfl) ?_
     refine sq_r (ry_move rfl) ?_
     refine sq_r (ry_lenH rfl) ?_
     refine sq_r (ry_int rfl rfl rfl) ?_
     refine sq_nil ?_
     refine ex_then ?_
     refine cw_cond rfl (fun h4 => ?_) (fun h4 => ?_)
     ·
      try simp only [Z0, Z1, Z2, Z3, Z4, Z5, Z6, Z7, Z8, Z9] at h4
      obtain ⟨k, hk⟩ := get_some (xs := (knownV (vv v))) (i := i) (by omega)
      have hR : rightF (vv v) = true := by
       cases h : rightF (vv v) with
       | true => rfl
       | false => rw [known_none h] at hk; simp at hk
      have hke := known_at hR hk
      have hkl : (knownV (vv v)).length = v.chip.blocks.xs.length - 2 := by rw [known_len hR]; show (cv v.chip).blocks.length - 2 = _; rw [show (cv v.chip).blocks.length = v.chip.blocks.xs.length from bvs_length _]
      have hso := soundF_iff.1 (chipOk_iff.1 (right_ok hR).1).1
      rw [show (vv v).chip = cv v.chip from rfl, show (cv v.chip).blocks.length = v.chip.blocks.xs.length from bvs_length _] at hso
      simp only [cv] at hso
      have hil := (List.getElem?_eq_some_iff.1 hk).1
      obtain ⟨B, hB⟩ := get_some (xs := v.chip.blocks.xs) (i := i + 2) (by omega)
      have hBv : blkAt (cv v.chip) ((i : Int) + 2) = bv B := by
       have := blkAt_of (c := v.chip) (i := i + 2) hB
       rw [← this]; congr 1
      refine cw_skip ?_
      refine ex_then ?_
      refine cw_seq ?_
      refine cw_block ?_
      refine cw_seq ?_
      refine cw_region ?_
      refine sq_r (ry_assign rfl) ?_
      refine sq_nil ?_
      refine ex_then ?_
      refine cw_seq ?_
      refine cw_seq ?_
      refine cw_region ?_
      refine sq_r (ry_assign rfl) ?_
      refine sq_nil ?_
      refine ex_then ?_
      refine cw_block ?_
      refine cw_loop (X := Nat) (fun zz => [(18, .int .i64 (livV v.chip.pages v.at_.xs i zz : Nat)), (19, .int .i64 (zz : Nat)), (4, .pointer (some ⟨b4, 0, none⟩)), (15, x70.val), (17, .int .i64 (i : Nat))]) (fun zz => [own weacells 4 x70 (knownV (vv v)), blk b4 (vlcells v) 29]) (fun zz => zz ≤ v.at_.xs.length) (fun zz => v.at_.xs.length - zz) 0 (Nat.zero_le _) (Sub.cons rfl (Sub.cons rfl (Sub.cons rfl (Sub.cons rfl (Sub.cons rfl (Sub.nil _)))))) (fun w hw => Keep.mem hw) ?_
      rintro n hn1
      refine cw_seq ?_
      refine cw_seq ?_
      refine cw_region ?_
      refine sq_r (ry_move rfl) ?_
      refine sq_r (ry_field (o' := 6) rfl rfl) ?_
      refine sq_r (ry_cellc rfl) ?_
      refine sq_r (ry_lenH rfl) ?_
      refine sq_r (ry_int rfl rfl rfl) ?_
      refine sq_nil ?_
      refine ex_then ?_
      refine cw_cond rfl (fun h5 => ?_) (fun h5 => ?_)
      ·
       try simp only [Z0, Z1, Z2, Z3, Z4, Z5, Z6, Z7, Z8, Z9] at h5
       obtain ⟨y, hy⟩ := get_some (xs := v.at_.xs) (i := n) (by omega)
       have hyr := (right_ok hR).2.2 y (List.mem_of_getElem? hy)
       have hlvl := livV_le v.chip.pages v.at_.xs i n
       refine cw_skip ?_
       refine ex_then ?_
       refine cw_seq ?_
       refine cw_block ?_
       refine cw_seq ?_
       refine cw_quiet (by kernel_rfl) (by kernel_rfl) ?_
       refine qt_r (ry_field (o' := 6) rfl rfl) ?_
       refine qt_r (ry_cellc rfl) ?_
       refine qt_r (ry_move rfl) ?_
       refine qt_r (ry_idxH rfl rfl n rfl (by omega)) ?_
       refine qt_r (ry_elemcH (j := 0) rfl n hy rfl (by decide)) ?_
       refine qt_r (ry_int rfl rfl rfl) ?_
       refine qt_r (ry_move rfl) ?_
       refine qt_gt rfl rfl rfl (fun hg => (Ry.yl (ry_field (o' := 6) rfl rfl))) ?_
       refine qt_gt rfl rfl rfl (fun hg => (Ry.yl (ry_cellc (ev_c hg rfl)))) ?_
       refine qt_gt rfl rfl rfl (fun hg => (Ry.yl (ry_move rfl))) ?_
       refine qt_gt rfl rfl rfl (fun hg => (Ry.yl (ry_idxH (ev_c hg rfl) (ev_c hg rfl) n rfl (by simp only [Z0, Z1, Z2, Z3, Z4, Z5, Z6, Z7, Z8, Z9] at hg; omega)))) ?_
       refine qt_gt rfl rfl rfl (fun hg => (Ry.yl (ry_elemcH (j := 0) (ev_c hg rfl) n hy rfl (by decide)))) ?_
       refine qt_gt rfl rfl rfl (fun hg => (Ry.yl (ry_sub (ev_c hg rfl) rfl (by simp only [Z0, Z1, Z2, Z3, Z4, Z5, Z6, Z7, Z8, Z9] at hg; omega)))) ?_
       refine qt_gt rfl rfl rfl (fun hg => (Ry.yl (ry_field (o' := 0) rfl rfl))) ?_
       refine qt_gt rfl rfl rfl (fun hg => (Ry.yl (ry_field (o' := 0) (ev_c hg rfl) rfl))) ?_
       refine qt_gt rfl rfl rfl (fun hg => (Ry.yl (ry_cellc (ev_c hg rfl)))) ?_
       refine qt_gt rfl rfl rfl (fun hg => (Ry.yl (ry_quo (ev_c hg rfl) (ev_c hg rfl) (by simp only [Z0, Z1, Z2, Z3, Z4, Z5, Z6, Z7, Z8, Z9] at hg; omega) (by simp only [Z0, Z1, Z2, Z3, Z4, Z5, Z6, Z7, Z8, Z9] at hg; omega)))) ?_
       refine qt_gt rfl rfl rfl (fun hg => (Ry.yl (ry_move rfl))) ?_
       refine qt_gt rfl rfl rfl (fun hg => (Ry.yl (ry_add (ev_c hg rfl) rfl (by simp only [Z0, Z1, Z2, Z3, Z4, Z5, Z6, Z7, Z8, Z9] at hg; omega)))) ?_
       refine qt_gt rfl rfl rfl (fun hg => (Ry.yl (ry_int (ev_c hg rfl) (ev_c hg rfl) rfl))) ?_
       refine qt_r (ry_and rfl rfl rfl) ?_
       refine qt_nil ?_
       refine ex_then ?_
       refine cw_cond rfl (fun h6 => ?_) (fun h6 => ?_)
       ·
        try simp only [Z0, Z1, Z2, Z3, Z4, Z5, Z6, Z7, Z8, Z9] at h6
        have hlv := livV_add (pages := v.chip.pages) (i := i) hy h6.1 h6.2
        refine cw_region ?_
        refine sq_r (ry_move rfl) ?_
        refine sq_r (ry_add rfl rfl (by omega)) ?_
        refine sq_r (ry_assign rfl) ?_
        refine sq_nil ?_
        refine ex_block ?_
        refine ex_then ?_
        refine cw_region ?_
        refine sq_r (ry_move rfl) ?_
        refine sq_r (ry_add rfl rfl (by omega)) ?_
        refine sq_r (ry_assign rfl) ?_
        refine sq_nil ?_
        exact ex_again (x := (n)) (n + 1) (by first | omega | (simp only []; omega)) (by first | omega | (simp only []; omega)) (Sub.cons (look_eq rfl (by rw [hlv]; rfl)) (Sub.cons rfl (Sub.cons rfl (Sub.cons rfl (Sub.cons rfl (Sub.nil _)))))) (fun w hw => Keep.mem hw)
       ·
        try simp only [Z0, Z1, Z2, Z3, Z4, Z5, Z6, Z7, Z8, Z9] at h6
        have hlv := livV_not (pages := v.chip.pages) (i := i) hy (by omega)
        refine cw_skip ?_
        refine ex_block ?_
        refine ex_then ?_
        refine cw_region ?_
        refine sq_r (ry_move rfl) ?_
        refine sq_r (ry_add rfl rfl (by omega)) ?_
        refine sq_r (ry_assign rfl) ?_
        refine sq_nil ?_
        exact ex_again (x := (n)) (n + 1) (by first | omega | (simp only []; omega)) (by first | omega | (simp only []; omega)) (Sub.cons (look_eq rfl (by rw [hlv])) (Sub.cons rfl (Sub.cons rfl (Sub.cons rfl (Sub.cons rfl (Sub.nil _)))))) (fun w hw => Keep.mem hw)
      ·
       try simp only [Z0, Z1, Z2, Z3, Z4, Z5, Z6, Z7, Z8, Z9] at h5
       obtain rfl : n = v.at_.xs.length := by omega
       refine cw_exit ?_
       refine ex_pass_exit ?_
       refine ex_pass_exit ?_
       refine ex_block_hit ?_
       refine ex_then ?_
       refine cw_seq ?_
       refine cw_region ?_
       refine sq_r (ry_field (o' := 0) rfl rfl) ?_
       refine sq_r (ry_field (o' := 2) rfl rfl) ?_
       refine sq_r (ry_cellc rfl) ?_
       refine sq_r (ry_move rfl) ?_
       refine sq_r (ry_add rfl rfl (by omega)) ?_
       refine sq_r (ry_idxH rfl rfl (i + 2) (by omega) (by omega)) ?_
       refine sq_r (ry_elemH rfl (i + 2) hB rfl) ?_
       have mb153 : Mb B v.chip.blocks := ⟨List.mem_of_getElem? hB⟩
       refine sq_allocA fun b20 => ?_
       refine sq_storeW rfl rfl ?_
       refine sq_nil ?_
       refine ex_then ?_
       refine cw_seq ?_
       refine cw_quiet (by kernel_rfl) (by kernel_rfl) ?_
       refine qt_r (ry_move rfl) ?_
       refine qt_r (ry_move rfl) ?_
       refine qt_r (ry_idxH rfl rfl i rfl (by omega)) ?_
       refine qt_r (ry_elemH rfl i hk rfl) ?_
       refine qt_r (ry_move rfl) ?_
       refine qt_r (ry_field (o' := 1) rfl rfl) ?_
       refine qt_r (ry_cellc rfl) ?_
       refine qt_r (ry_field (o' := 2) rfl rfl) ?_
       refine qt_r (ry_cellc rfl) ?_
       refine qt_r (ry_field (o' := 3) rfl rfl) ?_
       refine qt_r (ry_cellc rfl) ?_
       refine qt_r (ry_build (v := .agg (weacells ⟨(livV v.chip.pages v.at_.xs i v.at_.xs.length : Nat), B.used, B.worn, B.bad⟩)) rfl (wea_build2 _ _ _ _)) ?_
       refine qt_r (ry_ne rfl rfl) ?_
       refine qt_nil ?_
       refine ex_then ?_
       refine cw_cond rfl (fun h7 => ?_) (fun h7 => ?_)
       ·
        exfalso; rw [hke] at h7; rw [show (vv v).chip = cv v.chip from rfl, hBv, Bool.not_eq_true', decide_eq_false_iff_not] at h7; exact h7 rfl
       ·
        try simp only [Z0, Z1, Z2, Z3, Z4, Z5, Z6, Z7, Z8, Z9] at h7
        refine cw_skip ?_
        refine ex_block ?_
        refine ex_then ?_
        refine cw_region ?_
        refine sq_r (ry_move rfl) ?_
        refine sq_r (ry_add rfl rfl (by omega)) ?_
        refine sq_r (ry_assign rfl) ?_
        refine sq_nil ?_
        exact ex_again (x := (i)) (i + 1) (by first | omega | (simp only []; omega)) (by first | omega | (simp only []; omega)) (Sub.cons rfl (Sub.cons rfl (Sub.cons rfl (Sub.nil _)))) (fun w hw => Keep.mem hw)
     ·
      try simp only [Z0, Z1, Z2, Z3, Z4, Z5, Z6, Z7, Z8, Z9] at h4
      refine cw_exit ?_
      refine ex_pass_exit ?_
      refine ex_pass_exit ?_
      refine ex_block_hit ?_
      refine ex_then ?_
      refine cw_seq ?_
      refine cw_region ?_
      refine sq_r (ry_assign rfl) ?_
      refine sq_nil ?_
      refine ex_then ?_
      refine cw_ret ?_
      refine ex_ret (.inl rfl) (res_1 rfl (rv_tmp rfl)) (fun w1 hw => ?_)
      exact ⟨congrArg (fun b => Ending.returned (Value.bool b)) (rfl), Keep.mem hw⟩

end Go.Proofs.YtaipiecplldinaaGreat

/- What a law's row asks once its call is known to yield true and to leave the memory that was there as it was. -/
namespace Go.Eng
open Go.ChangeShapes Go.WideShapes Go.ChangeAt Go.RowKit Go.Kb

variable {H : Type} {enc : TypeId × Value → H} {P : Program}

theorem trodAll_stays (hl : laidOutB P = true) {W W' : World} {sp : Nat → Bool} : ∀ {ts : List TypeId} {vs : List Value} {ds : List (DataW H)} {ps : List MemPlace},
  (∀ t ∈ ts, P.readableRec t = true ∧ t < P.types.size) → DataW.TrodAll enc P W 0 (fun _ => true) true ts vs ds ps → (∀ p ∈ ps, W.sameAt W' p) → (∀ p ∈ ps, sp p.block = true) →
  DataW.TrodAll enc P W' 0 sp true ts vs ds ps
 | [], _, _, _, _, h, _, _ => by
  obtain ⟨rfl, rfl, rfl⟩ := trodAll_nil h
  exact rfl
 | t :: _, _, _, _, ht, h, hs, hp => by
  obtain ⟨v, vs1, d, ds1, a, b, rfl, rfl, rfl, h1, h2⟩ := trodAll_cons h
  exact ⟨a, b, WideElems.Trod_stays hl (ht t (by simp)).1 (ht t (by simp)).2 h1 (fun p h => hs p (by simp [h])) (fun p h => hp p (by simp [h])),
   trodAll_stays hl (fun t h => ht t (by simp [h])) h2 (fun p h => hs p (by simp [h])) (fun p h => hp p (by simp [h])), rfl⟩

theorem trodAll_length {W : World} {b : Nat} {sp : Nat → Bool} {hd : Bool} : ∀ {ts : List TypeId} {vs : List Value} {ds : List (DataW H)} {ps : List MemPlace},
  DataW.TrodAll enc P W b sp hd ts vs ds ps → vs.length = ts.length ∧ ds.length = ts.length
 | [], _, _, _, h => by
  obtain ⟨rfl, rfl, rfl⟩ := trodAll_nil h
  exact ⟨rfl, rfl⟩
 | _ :: _, _, _, _, h => by
  obtain ⟨v, vs1, d, ds1, a, b, rfl, rfl, rfl, h1, h2⟩ := trodAll_cons h
  have := trodAll_length h2
  simp [this.1, this.2]

theorem post_true (hl : laidOutB P = true) {f : Func} {s : ChangeSpec} {apart fresh handsOn : Bool} {W W' : World} {args : Array Value} {ds gs : List (DataW H)} {before : List MemPlace} {tb : TypeId}
  (hp : f.params.toList.all (fun t => P.readableRec t && decide (t < P.types.size)) = true) (hr : f.resultTypes = #[tb]) (hb : P.underlying tb = some .bool) (hv : s.vars = [])
  (hfn : ∀ ds : List (DataW H), ds.length = f.params.size → s.fn H ds = { results := [.lit (.bool true)], args := ds })
  (hW : DataW.Whole enc P f.params.toList s.vars apart W args.toList ds gs before) (hbel : Below W.heap.size W W') :
  s.post enc P f apart fresh handsOn false W args (.bool true) W' := by
 have hlt := hW.lt
 have hW0 := hW
 obtain ⟨p, q, hA, hV, rfl, hfz, hnd⟩ := hW
 rw [hv] at hV
 obtain ⟨rfl, rfl⟩ := trodVars_none hV
 have hlen := trodAll_length hA
 have e1 : s.fn H (ds ++ []) = { results := [.lit (.bool true)], args := ds } := by rw [List.append_nil]; exact hfn ds (by rw [hlen.2]; simp)
 have hpp : ∀ t ∈ f.params.toList, P.readableRec t = true ∧ t < P.types.size := fun t ht => by
  simpa using List.all_eq_true.1 hp t ht
 refine ⟨ds, [], p ++ [], [], p, [], hW0, ?_, ?_, ?_, hbel.frame _, fun h => by cases h⟩
 ·
  rw [e1, hr]; exact trodAll_mk1 (shut_bool hb true)
 ·
  rw [e1]
  exact trodAll_stays hl hpp hA (fun x hx => hbel.same (hlt x (by simp [hx]))) (fun x hx => by simpa using hlt x (by simp [hx]))
 ·
  rw [e1, hv]; exact rfl

/-! Arguments of a type, by its outer form. -/
theorem i64_of_ok {w : World} {b : Nat} {e : TypeId} {v : Value} (he : P.underlying e = some (.int .i64)) (h : Cell.okWide P w .any b e v) : ∃ n : Int, v = .int .i64 n ∧ -2 ^ 63 ≤ n ∧ n < 2 ^ 63 := by
 cases v with
 | int k n =>
  simp only [Cell.okWide, he, Cell.ok, IntKind.has] at h
  obtain ⟨rfl, h1, h2⟩ := h
  have a1 : (-2 ^ 63 : Int) ≤ n := h1
  have a2 : n ≤ (2 ^ 63 - 1 : Int) := h2
  exact ⟨n, rfl, a1, by omega⟩
 | _ => simp [Cell.okWide, he, Cell.ok] at h
theorem int_of_okWide {w : World} {b : Nat} {t : TypeId} {v : Value} (he : P.underlying t = some (.int .i64)) (h : Value.okWide P w .any b t v) : ∃ n : Int, v = .int .i64 n ∧ -2 ^ 63 ≤ n ∧ n < 2 ^ 63 := by
 unfold Value.okWide at h
 rw [he] at h
 exact i64_of_ok he h

theorem list3 {α : Type} {l : List α} (h : l.length = 3) : ∃ a b c, l = [a, b, c] := match l, h with | [a, b, c], _ => ⟨a, b, c, rfl⟩

end Go.Eng

/- Arguments opened: what is read of them as data lies in memory as a value of a Lean type. -/
namespace Go.Eng
open Go.ChangeShapes Go.WideShapes Go.ChangeAt Go.RowKit Go.Kb

variable {P : Program}

theorem list_of {α : Type} {p : Nat → α → Prop} : ∀ {n : Nat}, (∀ i, i < n → ∃ x, p i x) → ∃ l : List α, l.length = n ∧ ∀ i x, l[i]? = some x → p i x
 | 0, _ => ⟨[], rfl, fun i x h => by simp at h⟩
 | n + 1, h => by
  obtain ⟨l, hl, hp⟩ := list_of (n := n) fun i hi => h i (by omega)
  obtain ⟨x, hx⟩ := h n (by omega)
  refine ⟨l ++ [x], by simp [hl], fun i y hy => ?_⟩
  by_cases hi : i < n
  ·
   rw [List.getElem?_append_left (by omega)] at hy; exact hp i y hy
  ·
   have : i = n := by
    have := (List.getElem?_eq_some_iff.1 hy).1
    rw [List.length_append, hl] at this; simp at this; omega
   subst this
   rw [List.getElem?_append_right (by omega), hl] at hy
   have : x = y := by simpa using hy
   exact this ▸ hx

class OpenT (P : Program) (t : TypeId) (τ : Type) [Deep τ] : Prop where
 sz : P.cellsOf t = Deep.c τ
 h : ∀ {H : Type} {enc : TypeId × Value → H} {w : World} {fuel : Nat} {cs : List Value} {d : DataW H} {ps : List MemPlace}, DataW.trod enc P w 0 (fun _ => true) true fuel t cs = some (d, ps) → (∀ n ∈ d.weights P t, n ≤ reachBytes) →
  ∃ x : τ, (Deep.cells x).toList = cs ∧ Deep.good (hp w) x

theorem cells_get {w : World} {b : Nat} {a : Addr} {n : Nat} {cs : List Value} (h : w.cells? b a n = some cs) : cs.length = n ∧ ∀ j, j < n → w.cell? (a.add j) = cs[j]? := by
 unfold World.cells? at h
 split at h
 ·
  have hl := mapM_some_length h
  refine ⟨by simpa using hl, fun j hj => ?_⟩
  exact mapM_some_get h j j (by simp [hj])
 ·
  cases h

theorem mem_weightsAll {H : Type} {e : TypeId} {n : Nat} : ∀ {l : List (DataW H)} {d : DataW H}, d ∈ l → n ∈ d.weights P e → n ∈ DataW.weightsAll P e l
 | x :: l, d, hd, hn => by
  rw [DataW.weightsAll]
  rcases List.mem_cons.1 hd with rfl | hd
  ·
   exact List.mem_append_left _ hn
  ·
   exact List.mem_append_right _ (mem_weightsAll hd hn)
theorem mem_weightsEach {H : Type} {n : Nat} : ∀ {ts : List TypeId} {l : List (DataW H)} {i : Nat} {t : TypeId} {d : DataW H}, ts[i]? = some t → l[i]? = some d → n ∈ d.weights P t → n ∈ DataW.weightsEach P ts l
 | [], _, i, _, _, h, _, _ => by simp at h
 | _ :: _, [], i, _, _, _, h, _ => by simp at h
 | t0 :: ts, d0 :: l, 0, t, d, ht, hd, hn => by
  obtain rfl : t0 = t := by simpa using ht
  obtain rfl : d0 = d := by simpa using hd
  rw [DataW.weightsEach]; exact List.mem_append_left _ hn
 | t0 :: ts, d0 :: l, i + 1, t, d, ht, hd, hn => by
  rw [DataW.weightsEach]; exact List.mem_append_right _ (mem_weightsEach (i := i) (by simpa using ht) (by simpa using hd) hn)

theorem reach_le : reachBytes ≤ 140737488355328 := by decide

theorem open_sl {t e : TypeId} {τ : Type} [Deep τ] (hu : P.underlying t = some (.slice e)) (hb' : Nat.ble 1 (P.bytesOf e) = true) (hc : 1 ≤ Deep.c τ) (hs : P.cellsOf t = 1) [o : OpenT P e τ] : OpenT P t (Sl τ) := ⟨hs, fun {H enc w fuel cs d ps} h hw => by
 have hb : 1 ≤ P.bytesOf e := Nat.le_of_ble_eq_true hb'
 rcases Go.Deep.open_slice hu h with ⟨rfl, _⟩ | ⟨a, len, cap, m, n, D, Pl, rfl, _, hl, _, hm, hx, hel⟩
 ·
  exact ⟨⟨Sv.none, []⟩, rfl, good_none⟩
 ·
  simp only [if_true] at hm
  subst hm
  have hd : d = .slice ((List.range len).map D) ((List.range (m - len)).map fun j => D (len + j)) := congrArg Prod.fst hx
  subst hd
  simp only [DataW.weights, hu, List.length_map, List.length_range] at hw
  have hcap : m ≤ 140737488355328 := by
   have h1 := hw _ (List.mem_cons_self ..)
   have h2 : (len + (m - len)) * 1 ≤ (len + (m - len)) * P.bytesOf e := Nat.mul_le_mul_left _ hb
   have := reach_le; omega
  have hcells : ∀ i, i < m → ∃ cs', (cs'.length = Deep.c τ ∧ ∀ j, j < Deep.c τ → w.cell? ((a.add (i * Deep.c τ)).add j) = cs'[j]?) ∧ DataW.trod enc P w 0 (fun _ => true) true n e cs' = some (D i, Pl i) := fun i hi => by
   obtain ⟨cs', h1, h2⟩ := hel i hi
   rw [o.sz] at h1
   exact ⟨cs', cells_get h1, h2⟩
  have hspot : 0 < m → a.spot = none := fun hm => by
   obtain ⟨cs', ⟨h1, h2⟩, _⟩ := hcells 0 hm
   have h3 := h2 0 (by omega)
   have e0 : (a.add (0 * Deep.c τ)).add 0 = a := by simp [Addr.add]
   rw [e0, List.getElem?_eq_getElem (by omega)] at h3
   unfold World.cell? at h3
   split at h3
   ·
    split at h3
    ·
     cases h3
    ·
     rename_i hs; simpa using hs
   ·
    cases h3
  obtain ⟨l, hll, hlp⟩ := list_of (p := fun i (x : τ) => (∀ j, j < Deep.c τ → w.cell? ((a.add (i * Deep.c τ)).add j) = (Deep.cells x)[j]?) ∧ Deep.good (hp w) x) (n := len) fun i hi => by
   obtain ⟨cs', ⟨h1, h2⟩, h3⟩ := hcells i (by omega)
   obtain ⟨x, hx1, hx2⟩ := o.h h3 (fun k hk => hw k (List.mem_cons_of_mem _ (List.mem_append_left _ (mem_weightsAll (List.mem_map.2 ⟨i, List.mem_range.2 hi, rfl⟩) hk))))
   refine ⟨x, fun j hj => ?_, hx2⟩
   rw [h2 j hj, ← hx1]; simp
  refine ⟨⟨⟨false, a.block, a.off, len, m, a.spot⟩, l⟩, rfl, ⟨⟨(fun h => by cases h), hl, by simp only; omega, hspot⟩, by simp [hll], fun i x hi j hj => ?_⟩, fun x hx => ?_⟩
  ·
   have hil : i < len := by rw [← hll]; exact (List.getElem?_eq_some_iff.1 hi).1
   have h1 := (hlp i x hi).1 j hj
   have hs := hspot (by omega)
   have ea : (a.add (i * Deep.c τ)).add j = ⟨a.block, a.off + i * Deep.c τ + j, none⟩ := by
    obtain ⟨ab, ao, asp⟩ := a
    simp only at hs
    subst hs
    rw [Addr.add_none, Addr.add_none]
   rw [ea, cell_hp] at h1
   exact h1
  ·
   obtain ⟨i, hi⟩ := List.getElem?_of_mem hx
   exact (hlp i x hi).2⟩

theorem open_field {H : Type} {enc : TypeId × Value → H} {w : World} {fuel : Nat} {t : TypeId} {cs : List Value} {d : DataW H} {ps : List MemPlace} {fs : Array Field} (hu : P.underlying t = some (.struct fs)) (h : DataW.trod enc P w 0 (fun _ => true) true fuel t cs = some (d, ps)) (hw : ∀ n ∈ d.weights P t, n ≤ reachBytes)
  {i tf off : Nat} (hf0 : (fs[i]?).map (fun f => (f.type, f.offset)) = some (tf, off)) (τ : Type) [Deep τ] [o : OpenT P tf τ] : cs.length = P.cellsOf t ∧ ∃ x : τ, (Deep.cells x).toList = (cs.drop off).take (Deep.c τ) ∧ Deep.good (hp w) x := by
 obtain ⟨f, hf, e⟩ := Option.map_eq_some_iff.1 hf0
 obtain ⟨rfl, rfl⟩ := Prod.mk.inj e
 obtain ⟨xs, n, _, hx, hl, hlen, hg⟩ := DataW.trod_struct hu h
 have h1 := hg i f hf
 have hi : i < xs.length := by rw [hlen]; exact (Array.getElem?_eq_some_iff.1 hf).1
 rw [List.getElem?_eq_getElem hi, o.sz] at h1
 have hd : d = .agg (xs.map (·.1)) := congrArg Prod.fst hx
 subst hd
 obtain ⟨x, hx1, hx2⟩ := o.h (d := xs[i].1) (ps := xs[i].2) h1 (fun k hk => hw k (by
  simp only [DataW.weights, hu]
  exact mem_weightsEach (i := i) (t := f.type) (d := xs[i].1) (by
   have : fs.toList[i]? = some f := by simpa using hf
   rw [List.getElem?_map, this]; rfl) (by simp [hi]) hk))
 exact ⟨hl, x, hx1, hx2⟩

theorem cut2 {α : Type} {cs : List α} {a b : Nat} (h : cs.length = a + b) : (cs.drop 0).take a ++ (cs.drop a).take b = cs := by
 rw [List.drop_zero, List.take_of_length_le (l := cs.drop a) (by rw [List.length_drop]; omega), List.take_append_drop]
theorem cut4 {α : Type} {cs : List α} {a b c d : Nat} (h : cs.length = a + b + c + d) : (cs.drop 0).take a ++ (cs.drop a).take b ++ (cs.drop (a + b)).take c ++ (cs.drop (a + b + c)).take d = cs := by
 have h1 := cut2 (cs := cs) (a := a + b + c) (b := d) (by omega)
 conv => rhs; rw [← h1]
 congr 1
 rw [List.drop_zero, List.take_add, List.take_add]

/-! Numbers. -/
def ienc (n : Int) : Array Value := #[.int .i64 n]
instance : Enc ienc 1 := ⟨fun _ => rfl, fun _ => by simp [ienc, Value.oneCell']⟩
instance : Deep Int := Deep.flat ienc 1
def tenc (b : Bool) : Array Value := #[.bool b]
instance : Enc tenc 1 := ⟨fun _ => rfl, fun _ => by simp [tenc, Value.oneCell']⟩
instance : Deep Bool := Deep.flat tenc 1

theorem open_i64 {t : TypeId} (hu : P.underlying t = some (.int .i64)) (hs : P.cellsOf t = 1) : OpenT P t Int := ⟨hs, fun h _ => by
 obtain ⟨n, rfl, _, _⟩ := DataW.trod_int hu h
 exact ⟨n, rfl, trivial⟩⟩
theorem open_u8 {t : TypeId} (hu : P.underlying t = some (.int .u8)) (hs : P.cellsOf t = 1) : OpenT P t UInt8 := ⟨hs, fun h _ => by
 obtain ⟨n, rfl, _, hw⟩ := DataW.trod_int hu h
 simp only [Lit.wf, Bool.and_eq_true, decide_eq_true_eq] at hw
 have h1 : (0 : Int) ≤ n := hw.1
 have h2 : n ≤ (255 : Int) := hw.2
 refine ⟨UInt8.ofNat n.toNat, ?_, trivial⟩
 have : ((UInt8.ofNat n.toNat).toNat : Int) = n := by simp; omega
 show (benc (UInt8.ofNat n.toNat)).toList = _
 simp only [benc, this]⟩
theorem open_bool {t : TypeId} (hu : P.underlying t = some .bool) (hs : P.cellsOf t = 1) : OpenT P t Bool := ⟨hs, fun h _ => by
 obtain ⟨n, rfl, _⟩ := DataW.trod_bool hu h
 exact ⟨n, rfl, trivial⟩⟩

/-! Arguments. -/
theorem arg_agg {H : Type} {enc : TypeId × Value → H} {w : World} {b : Nat} {t : TypeId} {τ : Type} [Deep τ] [o : OpenT P t τ] (hu : ∃ d, P.underlying t = some d ∧ isRowD d = true) {v : Value} {d : DataW H} {ps : List MemPlace} (hv : Value.okWide P w .any b t v) (h : DataW.Trod enc P w 0 (fun _ => true) true t v d ps) (hw : ∀ n ∈ d.weights P t, n ≤ reachBytes) :
  ∃ x : τ, v = .agg (Deep.cells x) ∧ Deep.good (hp w) x := by
 obtain ⟨fuel, h⟩ := h
 obtain ⟨x, h1, h2⟩ := o.h h hw
 refine ⟨x, ?_, h2⟩
 obtain ⟨dd, hu1, hu2⟩ := hu
 have hc : ∃ cs, v = .agg cs := by
  unfold Value.okWide at hv
  rw [hu1] at hv
  cases dd <;> simp [isRowD] at hu2
  ·
   obtain ⟨cs, rfl, _⟩ := hv; exact ⟨cs, rfl⟩
  ·
   obtain ⟨cs, rfl, _⟩ := hv; exact ⟨cs, rfl⟩
 obtain ⟨cs, rfl⟩ := hc
 have : (Deep.cells x).toList = cs.toList := h1
 rw [Array.toList_inj.1 this]

structure Arg (H : Type) (enc : TypeId × Value → H) (P : Program) (W : World) (b : Nat) (t : TypeId) (v : Value) : Prop where
 ok : Value.okWide P W .any b t v
 trod : ∃ d ps, DataW.Trod enc P W 0 (fun _ => true) true t v d ps ∧ ∀ n ∈ d.weights P t, n ≤ reachBytes
theorem Arg.agg {H : Type} {enc : TypeId × Value → H} {W : World} {b : Nat} {t : TypeId} {v : Value} (h : Arg H enc P W b t v) {n : Nat} (hu : RowT P t n) (τ : Type) [Deep τ] [o : OpenT P t τ] : ∃ x : τ, v = .agg (Deep.cells x) ∧ Deep.good (hp W) x := by
 obtain ⟨d, ps, h1, h2⟩ := h.trod
 exact arg_agg hu.row h.ok h1 h2

theorem trodAll_get {H : Type} {enc : TypeId × Value → H} {W : World} {sp : Nat → Bool} {hd : Bool} : ∀ {ts : List TypeId} {vs : List Value} {ds : List (DataW H)} {ps : List MemPlace}, DataW.TrodAll enc P W 0 sp hd ts vs ds ps → ∀ (j : Nat) (t : TypeId) (v : Value), ts[j]? = some t → vs[j]? = some v →
  ∃ d p, ds[j]? = some d ∧ DataW.Trod enc P W 0 sp hd t v d p
 | [], _, _, _, h, j, _, _, ht, _ => by simp at ht
 | t0 :: ts, vs, ds, ps, h, j, t, v, ht, hv => by
  obtain ⟨v0, vs1, d0, ds1, a, b, rfl, rfl, rfl, h1, h2⟩ := trodAll_cons h
  cases j with
  | zero =>
   obtain rfl : t0 = t := by simpa using ht
   obtain rfl : v0 = v := by simpa using hv
   exact ⟨d0, a, rfl, h1⟩
  | succ j => exact trodAll_get h2 j t v (by simpa using ht) (by simpa using hv)

theorem lifted_true2 {H : Type} {enc : TypeId × Value → H} {C : Checked} {os : Os} {f : FuncId} {fn : Func} {s : ChangeSpec} {conds : List PathCond} {apart fresh handsOn : Bool} {tb : TypeId}
  (own : ownKnob C.prog.godebug = none) (started : os.Started) (noInit : C.prog.inits.idxOf? f = none) (hfunc : C.prog.funcs[f]? = some fn)
  (wit : ∃ (w : World) (tape : Tape) (i : Input), w.os = os ∧ (w.forCall tape i).Shaped C.prog ∧ i.vars = [] ∧ Input.okWide C.prog (w.forCall tape i) .any w.heap.size f i ∧
   s.pre6 enc C.prog fn conds apart (w.forCall tape i).memory i.args ∧ ({} : Assume).holds C.prog (lone (Frame.enter C.prog f i.args .normal) [] (w.forCall tape i)))
  (hl : laidOutB C.prog = true) (hp : fn.params.toList.all (fun t => C.prog.readableRec t && decide (t < C.prog.types.size)) = true) (hr : fn.resultTypes = #[tb]) (hb : C.prog.underlying tb = some .bool)
  (hv : s.vars = []) (hfn : ∀ ds : List (DataW H), ds.length = fn.params.size → s.fn H ds = { results := [.lit (.bool true)], args := ds })
  (contract : ∀ (W : World) (base : Nat) (vs : List Value), vs.length = fn.params.size → (∀ (j : Nat) t v, fn.params[j]? = some t → vs[j]? = some v → Arg H enc C.prog W base t v) →
   Calls C.prog f vs.toArray W fun e W' => e = .returned (.bool true) ∧ Mem W [] W') :
  ReturnsInHanded {} C os f .any (s.pre6 enc C.prog fn conds apart) (s.post enc C.prog fn apart fresh handsOn false) := by
 refine returnsInHanded_of_change_shaped own started noInit hfunc wit ?_
 intro W base args ds gs before hval hW _ hwt _ _
 have hlen : args.toList.length = fn.params.size := by
  obtain ⟨p, q, hA, _⟩ := hW
  rw [(trodAll_length hA).1]; simp
 have h := contract W base args.toList hlen (fun j t v h1 h2 => ⟨hval j t v h1 (by simpa using h2), by
  obtain ⟨p, q, hA, _⟩ := hW
  obtain ⟨d, pp, hd, ht⟩ := trodAll_get hA j t v (by simpa using h1) h2
  refine ⟨d, pp, ht, fun n hn => ?_⟩
  have hh := List.all_eq_true.1 hwt n (mem_weightsEach (i := j) (t := t) (d := d) (by rw [List.getElem?_append_left (by have := (Array.getElem?_eq_some_iff.1 h1).1; simpa using this)]; simpa using h1)
   (by rw [List.getElem?_append_left (List.getElem?_eq_some_iff.1 hd).1]; exact hd) hn)
  simpa using hh⟩)
 rw [Array.toArray_toList] at h
 exact h.mono fun e W' hh => ⟨_, hh.1, post_true hl hp hr hb hv hfn hW hh.2.below⟩
end Go.Eng

/- Arguments of this program, opened. -/
namespace Go.Proofs.YtaipiecplldinaaGreat
open Go.Eng Go.Kb
instance op3 : OpenT Tryz.prog 3 Int := open_i64 Tryz.underlying3 (by kernel_rfl)
instance op4 : OpenT Tryz.prog 4 Bool := open_bool Tryz.underlying4 (by kernel_rfl)
instance op5 : OpenT Tryz.prog 5 UInt8 := open_u8 Tryz.underlying5 (by kernel_rfl)

instance op26 : OpenT Tryz.prog 26 (Sl Int) := open_sl Tryz.underlying26 (by kernel_rfl) (by decide) (by kernel_rfl)
instance op38 : OpenT Tryz.prog 38 (Sl UInt8) := open_sl Tryz.underlying38 (by kernel_rfl) (by decide) (by kernel_rfl)
instance op46 : OpenT Tryz.prog 46 (Sl (Sl UInt8)) := open_sl Tryz.underlying46 (by kernel_rfl) (by decide) (by kernel_rfl)

end Go.Proofs.YtaipiecplldinaaGreat

/- Arguments that are arrays, or hold them: opened. -/
namespace Go.Eng
open Go.RowKit Go.Kb
instance (priority := high) deepIntO : Deep Int := Deep.flat ienc 1
end Go.Eng

/- Arguments: whole numbers of 64 bits; six parts. -/
namespace Go.Eng
open Go.RowKit Go.Kb
def uenc64 (n : UInt64) : Array Value := #[.int .u64 n.toNat]
instance : Enc uenc64 1 := ⟨fun _ => rfl, fun _ => by simp [uenc64, Value.oneCell']⟩
instance deepU64 : Deep UInt64 := Deep.flat uenc64 1
instance (priority := high) deepBoolC : Deep Bool := Deep.flat tenc 1
theorem open_u64 {P : Program} {t : TypeId} (hu : P.underlying t = some (.int .u64)) (hs : P.cellsOf t = 1) : OpenT P t UInt64 := ⟨hs, fun h _ => by
 obtain ⟨n, rfl, _, hw⟩ := DataW.trod_int hu h
 simp only [Lit.wf, Bool.and_eq_true, decide_eq_true_eq] at hw
 have h1 : (0 : Int) ≤ n := hw.1
 have h2 : n ≤ (18446744073709551615 : Int) := hw.2
 refine ⟨UInt64.ofNat n.toNat, ?_, trivial⟩
 have : ((UInt64.ofNat n.toNat).toNat : Int) = n := by simp; omega
 show (uenc64 (UInt64.ofNat n.toNat)).toList = _
 simp only [uenc64, this]⟩
theorem cut6 {α : Type} {cs : List α} {a b c d e f : Nat} (h : cs.length = a + b + c + d + e + f) : (cs.drop 0).take a ++ (cs.drop a).take b ++ (cs.drop (a + b)).take c ++ (cs.drop (a + b + c)).take d ++ (cs.drop (a + b + c + d)).take e ++ (cs.drop (a + b + c + d + e)).take f = cs := by
 have h1 := cut2 (cs := cs) (a := a + b + c + d + e) (b := f) (by omega)
 have h2 := cut2 (cs := cs.take (a + b + c + d + e)) (a := a + b + c + d) (b := e) (by rw [List.length_take]; omega)
 have h3 := cut4 (cs := (cs.take (a + b + c + d + e)).take (a + b + c + d)) (a := a) (b := b) (c := c) (d := d) (by simp only [List.length_take]; omega)
 conv => rhs; rw [← h1]
 congr 1
 rw [List.drop_zero, List.take_add, List.take_add, List.take_add, List.take_add]
end Go.Eng

/- Arguments with chips and volumes, opened. -/
namespace Go.Proofs.YtaipiecplldinaaGreat
open Go.Eng Go.Kb
open Go.ChangeShapes Go.WideShapes Go.ChangeAt Go.RowKit
instance opU27 : OpenT Tryz.prog 27 UInt64 := open_u64 Tryz.underlying27 (by kernel_rfl)
instance op94 : OpenT Tryz.prog 94 Ft := ⟨by kernel_rfl, fun h hw => by
 obtain ⟨hl, x0, h0, -⟩ := open_field Tryz.underlying94 h hw (i := 0) (tf := 3) (off := 0) rfl Int
 obtain ⟨-, x1, h1, -⟩ := open_field Tryz.underlying94 h hw (i := 1) (tf := 4) (off := 1) rfl Bool
 obtain ⟨-, x2, h2, -⟩ := open_field Tryz.underlying94 h hw (i := 2) (tf := 4) (off := 2) rfl Bool
 obtain ⟨-, x3, h3, -⟩ := open_field Tryz.underlying94 h hw (i := 3) (tf := 5) (off := 3) rfl UInt8
 refine ⟨⟨x0, x1, x2, x3⟩, ?_, trivial⟩
 refine Eq.trans ?_ (cut4 (a := 1) (b := 1) (c := 1) (d := 1) (hl.trans (by kernel_rfl)))
 rw [show (Deep.cells (⟨x0, x1, x2, x3⟩ : Ft)).toList = (Deep.cells x0).toList ++ (Deep.cells x1).toList ++ (Deep.cells x2).toList ++ (Deep.cells x3).toList from rfl, h0, h1, h2, h3]
 rfl⟩
instance op23 : OpenT Tryz.prog 23 (Sl Ft) := open_sl Tryz.underlying23 (by kernel_rfl) (by decide) (by kernel_rfl)
instance op48 : OpenT Tryz.prog 48 Bk := ⟨by kernel_rfl, fun h hw => by
 obtain ⟨hl, x0, h0, g0⟩ := open_field Tryz.underlying48 h hw (i := 0) (tf := 46) (off := 0) rfl (Sl (Sl UInt8))
 obtain ⟨-, x1, h1, -⟩ := open_field Tryz.underlying48 h hw (i := 1) (tf := 3) (off := 1) rfl Int
 obtain ⟨-, x2, h2, -⟩ := open_field Tryz.underlying48 h hw (i := 2) (tf := 3) (off := 2) rfl Int
 obtain ⟨-, x3, h3, -⟩ := open_field Tryz.underlying48 h hw (i := 3) (tf := 4) (off := 3) rfl Bool
 refine ⟨⟨x0, x1, x2, x3⟩, ?_, g0⟩
 refine Eq.trans ?_ (cut4 (a := 1) (b := 1) (c := 1) (d := 1) (hl.trans (by kernel_rfl)))
 rw [show (Deep.cells (⟨x0, x1, x2, x3⟩ : Bk)).toList = (Deep.cells x0).toList ++ (Deep.cells x1).toList ++ (Deep.cells x2).toList ++ (Deep.cells x3).toList from rfl, h0, h1, h2, h3]
 rfl⟩
instance op22 : OpenT Tryz.prog 22 (Sl Bk) := open_sl Tryz.underlying22 (by kernel_rfl) (by decide) (by kernel_rfl)
instance op25 : OpenT Tryz.prog 25 Cp := ⟨by kernel_rfl, fun h hw => by
 obtain ⟨hl, x0, h0, -⟩ := open_field Tryz.underlying25 h hw (i := 0) (tf := 3) (off := 0) rfl Int
 obtain ⟨-, x1, h1, -⟩ := open_field Tryz.underlying25 h hw (i := 1) (tf := 3) (off := 1) rfl Int
 obtain ⟨-, x2, h2, g2⟩ := open_field Tryz.underlying25 h hw (i := 2) (tf := 22) (off := 2) rfl (Sl Bk)
 obtain ⟨-, x3, h3, -⟩ := open_field Tryz.underlying25 h hw (i := 3) (tf := 3) (off := 3) rfl Int
 obtain ⟨-, x4, h4, -⟩ := open_field Tryz.underlying25 h hw (i := 4) (tf := 4) (off := 4) rfl Bool
 obtain ⟨-, x5, h5, g5⟩ := open_field Tryz.underlying25 h hw (i := 5) (tf := 23) (off := 5) rfl (Sl Ft)
 refine ⟨⟨x0, x1, x2, x3, x4, x5⟩, ?_, ⟨g2, g5⟩⟩
 refine Eq.trans ?_ (cut6 (a := 1) (b := 1) (c := 1) (d := 1) (e := 1) (f := 1) (hl.trans (by kernel_rfl)))
 rw [show (Deep.cells (⟨x0, x1, x2, x3, x4, x5⟩ : Cp)).toList = (Deep.cells x0).toList ++ (Deep.cells x1).toList ++ (Deep.cells x2).toList ++ (Deep.cells x3).toList ++ (Deep.cells x4).toList ++ (Deep.cells x5).toList from rfl, h0, h1, h2, h3, h4, h5]
 rfl⟩
instance op29 : OpenT Tryz.prog 29 Vol := ⟨by kernel_rfl, fun h hw => by
 obtain ⟨hl, x0, h0, g0⟩ := open_field Tryz.underlying29 h hw (i := 0) (tf := 25) (off := 0) rfl Cp
 obtain ⟨-, x1, h1, g1⟩ := open_field Tryz.underlying29 h hw (i := 1) (tf := 26) (off := 6) rfl (Sl Int)
 obtain ⟨-, x2, h2, -⟩ := open_field Tryz.underlying29 h hw (i := 2) (tf := 27) (off := 7) rfl UInt64
 obtain ⟨-, x3, h3, -⟩ := open_field Tryz.underlying29 h hw (i := 3) (tf := 3) (off := 8) rfl Int
 refine ⟨⟨x0, x1, x2, x3⟩, ?_, ⟨g0, g1⟩⟩
 refine Eq.trans ?_ (cut4 (a := 6) (b := 1) (c := 1) (d := 1) (hl.trans (by kernel_rfl)))
 rw [show (Deep.cells (⟨x0, x1, x2, x3⟩ : Vol)).toList = (Deep.cells x0).toList ++ (Deep.cells x1).toList ++ (Deep.cells x2).toList ++ (Deep.cells x3).toList from rfl, h0, h1, h2, h3]
 rfl⟩

end Go.Proofs.YtaipiecplldinaaGreat

/- The law FlashMounts holds: whatever is on a chip, it is mounted, and each id got, as the document says; what is told of blocks is right. It holds of all arguments that can be read; its arguments read behind the call as they did. -/
namespace Go.Proofs.YtaipiecplldinaaGreat
open Go.Eng Go.Kb Go.ChangeShapes Go.WideShapes Go.ChangeAt Go.RowKit

theorem Tryz.own : ownKnob Tryz.prog.godebug = none := by kernel_rfl
theorem Tryz.laidOut : laidOutB Tryz.prog = true := by kernel_rfl
set_option maxRecDepth 100000 in
theorem flashMounts_call {H : Type} {enc : TypeId × Value → H} (W : World) (base : Nat) (vs : List Value) (hl : vs.length = 3) (h : ∀ (j : Nat) t v, Tryz.f3.params[j]? = some t → vs[j]? = some v → Arg H enc Tryz.prog W base t v) :
  Calls Tryz.prog 3 vs.toArray W fun e W' => e = .returned (.bool true) ∧ Mem W [] W' := by
 rw [Tryz.params3] at h
 obtain ⟨v0, v1, v2, rfl⟩ := list3 hl
 obtain ⟨x0, rfl, g0⟩ := (h 0 25 v0 rfl rfl).agg (inferInstance : RowT Tryz.prog 25 _) Cp
 obtain ⟨x1, rfl, g1⟩ := (h 1 29 v1 rfl rfl).agg (inferInstance : RowT Tryz.prog 29 _) Vol
 obtain ⟨x2, rfl, b2⟩ := int_of_okWide (t := 3) Tryz.underlying3 (h 2 3 v2 rfl rfl).ok
 exact flashMounts_c W x0 x1 x2 g0 g1
set_option maxRecDepth 100000 in
theorem flashMounts_lifted (os : Os) (started : os.Started) (H : Type) (enc : TypeId × Value → H) :
  ReturnsInHanded {} Tryz.checked os 3 .any (Rows.flashMountsSpec.pre6 enc Tryz.prog Tryz.f3 Rows.flashMountsRow.domain false) (Rows.flashMountsSpec.post enc Tryz.prog Tryz.f3 false true false false) :=
 lifted_true2 (C := Tryz.checked) Tryz.own started (by kernel_rfl) Tryz.func3
  (ChangeSpec.witness6 (enc := enc) (C := Tryz.checked) false ⟨#[], #[.agg #[.int .i64 0, .int .i64 0, .slice none 0 0, .int .i64 0, .bool false, .slice none 0 0], .agg #[.int .i64 0, .int .i64 0, .slice none 0 0, .int .i64 0, .bool false, .slice none 0 0, .slice none 0 0, .int .u64 0, .int .i64 0], .int .i64 0], []⟩ 24 (by kernel_rfl) (by kernel_rfl) (by kernel_rfl) (by kernel_rfl))
  Tryz.laidOut (by kernel_rfl) rfl Tryz.underlying4 rfl (fun ds hd => by obtain ⟨d0, d1, d2, rfl⟩ := list3 (hd.trans (by kernel_rfl)); rfl)
  (fun W base vs hl h => flashMounts_call W base vs (hl.trans (by kernel_rfl)) h)
theorem flashMounts_holds : Rows.FlashMountsSaid :=
 OpenClaim.holds_of_wide 3 Tryz.f3 rfl rfl rfl rfl rfl rfl rfl ⟨rfl, rfl, rfl, rfl, rfl⟩ rfl rfl rfl rfl rfl (by kernel_rfl) Tryz.func3 (by kernel_rfl)
  (of_decide_eq_true (by kernel_rfl)) (by unfold Func.isWrapper; first | (rw [if_pos (by decide +kernel)]; kernel_rfl) | (rw [if_neg (by decide +kernel)]; exact ⟨rfl, rfl⟩))
  (fun os started H enc _ => flashMounts_lifted os started H enc)

end Go.Proofs.YtaipiecplldinaaGreat

