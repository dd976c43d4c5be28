/- Sorting: how to compare, how to swap. -/
import Derived.Test.YtldkgicmfbofiaaMx
import Derived.Test.YtldkgicmfbofiaaMu

set_option linter.unusedSimpArgs false
set_option linter.unusedVariables false
namespace Go.Proofs.Ytldkgicmfbofiaa
open Go.Eng Go.Kb
open Go.RowKit

def LF (b : Nat) : Value := .func (.func 53) #[] #[.pointer (some ⟨b, 0, none⟩)]
noncomputable def SF (s : Sv) : Value := .func (.func 96) #[] #[s.val, typeHandle Try.prog 34]
structure Lsw where
 b : Nat
 s : Sv
 k : FuncId
 caps : Array Value
def WF (l : Lsw) : Value := .func (.func l.k) #[] l.caps
def lscells (l : Lsw) : Array Value := #[LF l.b, WF l]
theorem lscells_one (x : Lsw) : (lscells x).all (·.oneCell') = true := by simp [lscells, LF, WF, Value.oneCell']
instance : Enc lscells 2 := ⟨fun _ => rfl, lscells_one⟩
instance (x : Lsw) : SizeIs (lscells x) 2 := ⟨rfl, lscells_one x⟩
instance (x : Lsw) : CellAt (lscells x) 0 (LF x.b) := ⟨rfl⟩
instance (x : Lsw) : CellAt (lscells x) 1 (WF x) := ⟨rfl⟩
def Swaps (g : Lsw) (n : Nat) : Prop := 2 ≤ n → WF g = SF g.s
set_option maxRecDepth 20000 in
theorem sless_c (w : World) (b : Nat) (s : Sv) (xs : List Rt) (i j : Int) (hb : w.cell? ⟨b, 0, none⟩ = some s.val) (hs : Lies rcells 19 (hp w) s xs) (hi : 0 ≤ i ∧ i < (xs.length : Int)) (hj : 0 ≤ j ∧ j < (xs.length : Int)) : Calls Try.prog 53 #[.int .i64 i, .int .i64 j, .pointer (some ⟨b, 0, none⟩)] w fun e w' => e = .returned (.bool (lessV xs i j)) ∧ Mem w [] w' := by
 have ghs : Gv w s rcells 19 xs := ⟨hs⟩
 refine calls_of (args := [_, _, _]) Try.func53 rfl Try.ntmps53 rfl ?_
 change Cw _ _ _ _ _ [(0, .int .i64 i), (1, .int .i64 j), (2, .pointer (some ⟨b, 0, none⟩))] []
 refine cw_seq ?_
 refine cw_region ?_
 refine sq_r (ry_assign rfl) ?_
 refine sq_nil ?_
 refine ex_then ?_
 refine cw_seq ?_
 refine cw_quiet (by kernel_rfl) (by kernel_rfl) ?_
 refine qt_r (ry_old rfl hb) ?_
 refine qt_r (ry_move rfl) ?_
 obtain ⟨x, hx⟩ := get_some (xs := xs) (i := i.toNat) (by omega)
 refine qt_r (ry_idxH rfl rfl i.toNat (by omega) (by omega)) ?_
 refine qt_r (ry_field rfl rfl) ?_
 refine qt_r (ry_elempH (j := 0) rfl i.toNat hx rfl (by decide)) ?_
 refine qt_r (ry_old rfl hb) ?_
 refine qt_r (ry_move rfl) ?_
 obtain ⟨y, hy⟩ := get_some (xs := xs) (i := j.toNat) (by omega)
 refine qt_r (ry_idxH rfl rfl j.toNat (by omega) (by omega)) ?_
 refine qt_r (ry_field rfl rfl) ?_
 refine qt_r (ry_elempH (j := 0) rfl j.toNat hy rfl (by decide)) ?_
 refine qt_y (yl_callC rfl trivial) ?_
 refine qt_r (ry_assign rfl) ?_
 refine qt_nil ?_
 refine ex_then ?_
 refine cw_ret ?_
 refine ex_ret (.inl rfl) (res_1 rfl (rv_tmp rfl)) (fun w1 hw => ?_)
 exact ⟨congrArg (fun b => Ending.returned (Value.bool b)) (by simp [lessV, List.getD, hx, hy]), Keep.mem hw⟩
theorem cell_has {w0 w : World} {L : List Ent} {b i : Nat} {v : Value} {T : TypeId} (h : L[i]? = some (blk b #[v] T)) (hw : Mem w0 L w) : w.cell? ⟨b, 0, none⟩ = some v := by
 rw [hw.cell h]; rfl
instance sless_i {w0 : World} {L : List Ent} {b k : Nat} {s : Sv} {xs : List Rt} {T : TypeId} {i j : Int} [h : Has L b #[s.val] T k] [q : Hd w0 L s rcells 19 xs] : FnQ Try.prog 53 w0 L [.int .i64 i, .int .i64 j, .pointer (some ⟨b, 0, none⟩)] (.bool (lessV xs i j)) ((0 ≤ i ∧ i < (xs.length : Int)) ∧ (0 ≤ j ∧ j < (xs.length : Int))) := ⟨fun hp w hw => sless_c w b s xs i j (cell_has h.h hw) (q.h w hw) hp.1 hp.2⟩

theorem swap_fn : ∃ fn, Try.prog.funcs[96]? = some fn ∧ (fn.name == "runtime.NumGoroutine") = false ∧ fn.body.isNone = true ∧ Extern.findNext fn = none ∧ Extern.find fn = some (Extern.ReflectliteSwapper.swap false) := ⟨Option.get (Try.prog.funcs[96]?) (by kernel_rfl), by kernel_rfl, by kernel_rfl, by kernel_rfl, by kernel_rfl, by kernel_rfl⟩
theorem route_info : ∃ ie, Try.prog.info? 34 = some ie ∧ ie.size = 19 := ⟨Option.get (Try.prog.info? 34) (by kernel_rfl), by kernel_rfl, by kernel_rfl⟩
theorem route_agg (w : World) : (isAgg 34).run Try.prog w = .ok true w := by
 have := Try.underlying34
 simp [isAgg, underlying, this, Result.andThen]
section
variable {N : Fra} {w0 : World} {env : Env} {L : List Ent} {l : List Oper} {Q : Exit → Act → World → Prop} {rest : List Oper} {d : Option Tmp} {ty : TypeId} {ps : String} {af : Array Edge}
theorem sq_swap {x : Operand} {zs : List Operand} {ts : Array TypeId} {s : Sv} {xs : List Rt} {i j : Int} {k : Nat} {L' : List Ent} (p q : Nat) {v : Value} (hx : ev env x = some v) (hv : v = SF s) (hxs : evl env zs = some [.int .i64 i, .int .i64 j]) (hi : i = (p : Int)) (hj : j = (q : Int)) (h1 : p < xs.length) (h2 : q < xs.length) [ho : Owns L s rcells 19 xs k] [hu : Upd L k (own rcells 19 s (swp xs p q)) L'] (hk : Sq Try.prog N w0 l Q rest (putE env d (.tuple #[])) L') (hd : dstOk N d = true := by rfl) :
  Sq Try.prog N w0 l Q (⟨d, .call { callee := .value x, args := zs.toArray, argTypes := ts }, ty, ps, af, none⟩ :: rest) env L := by
 subst hi hj hv
 obtain ⟨fn, f1, f2, f3, f4, f5⟩ := swap_fn
 obtain ⟨ie, i1, i2⟩ := route_info
 refine sq_nativeV f1 f2 f3 f4 f5 hx hxs (fun w hw => ?_) hd
 obtain ⟨w', r, m⟩ := swap_run i1 i2 route_agg hw ho h1 h2
 exact ⟨_, w', L', r, by rw [← hu.h]; exact m, hk⟩
end

end Go.Proofs.Ytldkgicmfbofiaa

/- Insertion sort, turns: walked. -/
namespace Go.Proofs.Ytldkgicmfbofiaa
open Go.Eng Go.Kb
set_option maxRecDepth 20000 in
theorem insort_c (w0 w : World) (L : List Ent) (xs : List Rt) (T : TypeId) (g : Lsw) (a : Nat) (n : Nat) (hw : Mem w0 (blk g.b #[g.s.val] T :: own rcells 19 g.s xs :: L) w) (hpre : a ≤ n ∧ n ≤ xs.length ∧ xs.length ≤ 1000000 ∧ MayAll xs ∧ Swaps g xs.length) : Calls Try.prog 97 #[.agg (lscells g), .int .i64 (a : Nat), .int .i64 (n : Nat)] w fun e w' => ∃ zz : List Rt, e = .returned (.tuple #[]) ∧ (Upto rkR xs a n zz) ∧ Mem w0 (blk g.b #[g.s.val] T :: own rcells 19 g.s zz :: L) w' := by
 obtain ⟨hp1, hp2, hp3, hp4, hsw⟩ := hpre
 refine calls_in (args := [_, _, _]) Try.func97 rfl Try.ntmps97 rfl hw ?_
 change Cw _ _ _ _ _ [(0, .agg (lscells g)), (1, .int .i64 (a : Nat)), (2, .int .i64 (n : Nat))] (blk g.b #[g.s.val] T :: own rcells 19 g.s xs :: L)
 refine cw_seq ?_
 refine cw_region ?_
 refine sq_boxA rfl fun b3 => ?_
 refine sq_nil ?_
 refine ex_then ?_
 refine cw_seq ?_
 refine cw_region ?_
 refine sq_r (ry_move rfl) ?_
 refine sq_r (ry_add rfl rfl (by omega)) ?_
 refine sq_r (ry_assign rfl) ?_
 refine sq_nil ?_
 refine ex_then ?_
 refine cw_block ?_
 refine cw_loop (X := Nat × List Rt) (fun zz => [(6, .int .i64 (zz.1 : Nat)), (1, .int .i64 (a : Nat)), (2, .int .i64 (n : Nat)), (3, .pointer (some ⟨b3, 0, none⟩))]) (fun zz => blk b3 (lscells g) 112 :: blk g.b #[g.s.val] T :: own rcells 19 g.s zz.2 :: L) (fun zz => a < zz.1 ∧ zz.1 ≤ n + 1 ∧ Upto rkR xs a (min zz.1 n) zz.2) (fun zz => n + 1 - zz.1) (a + 1, xs) ⟨by first | omega | (simp only []; omega), by first | omega | (simp only []; omega), by rcases Nat.lt_or_ge a n with h | h; (rw [show min (a + 1) n = a + 1 by first | omega | (simp only []; omega)]; exact upto_one (by first | omega | (simp only []; omega))); (rw [show min (a + 1) n = a by first | omega | (simp only []; omega)]; exact upto_nil (by first | omega | (simp only []; omega)))⟩ (Sub.cons rfl (Sub.cons rfl (Sub.cons rfl (Sub.cons rfl (Sub.nil _))))) (fun w hw => Keep.mem hw) ?_
 rintro ⟨i, ys⟩ ⟨hi1, hi2, hi3⟩
 dsimp only
 simp only at hi1 hi2 hi3
 have ly := hi3.length (by omega) (by omega)
 have hmy : MayAll ys := fun x hx => hp4 x ((upto_same hi3 (by omega) (by omega)).1 hx)
 refine cw_seq ?_
 refine cw_seq ?_
 refine cw_region ?_
 refine sq_r (ry_move rfl) ?_
 refine sq_r (ry_move rfl) ?_
 refine sq_r (ry_int rfl rfl rfl) ?_
 refine sq_nil ?_
 refine ex_then ?_
 refine cw_cond rfl (fun h0 => ?_) (fun h0 => ?_)
 ·
  try simp only [bz0, bz1, bz2, bz3, bz4, bz5, bz6, bz7, bz8, bz9] at h0
  rw [show min i n = i by omega] at hi3
  refine cw_skip ?_
  refine ex_then ?_
  refine cw_seq ?_
  refine cw_block ?_
  refine cw_seq ?_
  refine cw_region ?_
  refine sq_r (ry_move rfl) ?_
  refine sq_r (ry_assign rfl) ?_
  refine sq_nil ?_
  refine ex_then ?_
  refine cw_block ?_
  refine cw_loop (X := Nat × List Rt) (fun zz => [(7, .int .i64 (zz.1 : Nat)), (1, .int .i64 (a : Nat)), (2, .int .i64 (n : Nat)), (3, .pointer (some ⟨b3, 0, none⟩)), (6, .int .i64 (i : Nat))]) (fun zz => blk b3 (lscells g) 112 :: blk g.b #[g.s.val] T :: own rcells 19 g.s zz.2 :: L) (fun zz => Slid ys zz.2 i zz.1 ∧ a ≤ zz.1 ∧ zz.1 ≤ i ∧ ∀ t, zz.1 ≤ t → t < i → rk rkR ys i < rk rkR ys t) (fun zz => zz.1) (i, ys) ⟨Slid.refl, by first | omega | (simp only []; omega), Nat.le_refl _, fun t h1 h2 => absurd h2 (Nat.not_lt_of_le h1)⟩ (Sub.cons rfl (Sub.cons rfl (Sub.cons rfl (Sub.cons rfl (Sub.cons rfl (Sub.nil _)))))) (fun w hw => Keep.mem hw) ?_
  rintro ⟨j, ts⟩ ⟨hj1, hj2, hj3, hj4⟩
  dsimp only
  simp only at hj1 hj2 hj3 hj4
  have lt := hj1.len
  have hmt : MayAll ts := fun x hx => hmy x (hj1.mem hj3 (by omega) hx)
  refine cw_seq ?_
  refine cw_seq ?_
  refine cw_region ?_
  refine sq_r (ry_move rfl) ?_
  refine sq_r (ry_move rfl) ?_
  refine sq_r (ry_int rfl rfl rfl) ?_
  refine sq_r (ry_move rfl) ?_
  refine sq_gt rfl rfl rfl (fun hg => (Ry.yl (ry_field (o' := 0) rfl rfl))) ?_
  refine sq_gt rfl rfl rfl (fun hg => (Ry.yl (ry_cellc (ev_c hg rfl)))) ?_
  refine sq_gt rfl rfl rfl (fun hg => (Ry.yl (ry_move rfl))) ?_
  refine sq_gt rfl rfl rfl (fun hg => (Ry.yl (ry_move rfl))) ?_
  refine sq_gt rfl rfl rfl (fun hg => (Ry.yl (ry_sub (ev_c hg rfl) rfl (by simp only [bz0, bz1, bz2, bz3, bz4, bz5, bz6, bz7, bz8, bz9] at hg; omega)))) ?_
  refine sq_gt rfl rfl rfl (fun hg => yl_callV (vs := [.int .i64 (j : Int), .int .i64 ((j : Int) - 1)]) (vs2 := [.int .i64 (j : Int), .int .i64 ((j : Int) - 1), .pointer (some ⟨g.b, 0, none⟩)]) (ev_c hg rfl) (evl_cons (ev_c hg rfl) (evl_cons (ev_c hg rfl) evl_nil)) rfl (by simp only [bz0, bz1, bz2, bz3, bz4, bz5, bz6, bz7, bz8, bz9] at hg; omega)) ?_
  refine sq_r (ry_and rfl rfl rfl) ?_
  refine sq_nil ?_
  refine ex_then ?_
  refine cw_cond rfl (fun h1 => ?_) (fun h1 => ?_)
  ·
   try simp only [bz0, bz1, bz2, bz3, bz4, bz5, bz6, bz7, bz8, bz9] at h1
   have hlt : rk rkR ys i < rk rkR ys (j - 1) := by
    have h2 := h1.2
    rw [lessV_rk hmt (s := j) (t := j - 1) (by omega) (by omega) (by omega) (by omega), decide_eq_true_eq, slid_at hj1, slid_below hj1 (by omega)] at h2
    exact h2
   refine cw_skip ?_
   refine ex_then ?_
   refine cw_seq ?_
   refine cw_block ?_
   refine cw_region ?_
   refine sq_r (ry_field (o' := 1) rfl rfl) ?_
   refine sq_r (ry_cellc rfl) ?_
   refine sq_r (ry_move rfl) ?_
   refine sq_r (ry_move rfl) ?_
   refine sq_r (ry_sub rfl rfl (by omega)) ?_
   refine sq_swap j (j - 1) rfl (hsw (by omega)) rfl (by omega) (by omega) (by omega) (by omega) ?_
   refine sq_nil ?_
   refine ex_block ?_
   refine ex_then ?_
   refine cw_region ?_
   refine sq_r (ry_move rfl) ?_
   refine sq_r (ry_sub rfl rfl (by omega)) ?_
   refine sq_r (ry_assign rfl) ?_
   refine sq_nil ?_
   exact ex_again (x := (j, ts)) (j - 1, swp ts j (j - 1)) ⟨hj1.step (by first | omega | (simp only []; omega)) hj3 (by first | omega | (simp only []; omega)), by first | omega | (simp only []; omega), by first | omega | (simp only []; omega), fun t h2 h3 => (Nat.eq_or_lt_of_le h2).elim (fun h => h ▸ hlt) fun h => hj4 t (by first | omega | (simp only []; omega)) h3⟩ (by simp only; omega) (Sub.cons (look_eq rfl (by congr 1; omega)) (Sub.cons rfl (Sub.cons rfl (Sub.cons rfl (Sub.cons rfl (Sub.nil _)))))) (fun w hw => Keep.mem hw)
  ·
   try simp only [bz0, bz1, bz2, bz3, bz4, bz5, bz6, bz7, bz8, bz9] at h1
   have hdone : Upto rkR xs a (i + 1) ts := by
    refine ins_done hi3 (by omega) (by omega) hj1 hj2 hj3 hj4 ?_
    rcases h1 with h | h
    ·
     left; omega
    ·
     by_cases e : j = a
     ·
      exact .inl e
     ·
      rw [lessV_rk hmt (s := j) (t := j - 1) (by omega) (by omega) (by omega) (by omega), decide_eq_false_iff_not, slid_at hj1, slid_below hj1 (by omega)] at h
      right; omega
   refine cw_exit ?_
   refine ex_pass_exit ?_
   refine ex_pass_exit ?_
   refine ex_block_hit ?_
   refine ex_block ?_
   refine ex_then ?_
   refine cw_region ?_
   refine sq_r (ry_move rfl) ?_
   refine sq_r (ry_add rfl rfl (by omega)) ?_
   refine sq_r (ry_assign rfl) ?_
   refine sq_nil ?_
   exact ex_again (x := (i, ys)) (i + 1, ts) ⟨by first | omega | (simp only []; omega), by first | omega | (simp only []; omega), by rw [show min (i + 1) n = i + 1 by first | omega | (simp only []; omega)]; exact hdone⟩ (by simp only; omega) (Sub.cons rfl (Sub.cons rfl (Sub.cons rfl (Sub.cons rfl (Sub.nil _))))) (fun w hw => Keep.mem hw)
 ·
  try simp only [bz0, bz1, bz2, bz3, bz4, bz5, bz6, bz7, bz8, bz9] at h0
  rw [show min i n = n by omega] at hi3
  refine cw_exit ?_
  refine ex_pass_exit ?_
  refine ex_pass_exit ?_
  refine ex_block_hit ?_
  refine ex_ret (.inr rfl) (res_none rfl) (fun w1 hw => ?_)
  exact ⟨ys, rfl, hi3, Keep.mem hw⟩
instance insort_i {w0 : World} {L R1 L2 : List Ent} {i j : Nat} {xs : List Rt} {T : TypeId} {g : Lsw} {a : Nat} {n : Nat} [h : Has L g.b #[g.s.val] T i] [d1 : DelI L i R1] [q : Owns R1 g.s rcells 19 xs j] [d2 : DelI R1 j L2] : FnC Try.prog 97 w0 L [.agg (lscells g), .int .i64 (a : Nat), .int .i64 (n : Nat)] (List Rt) (fun zz => .tuple #[]) (fun zz => blk g.b #[g.s.val] T :: own rcells 19 g.s zz :: L2) (fun zz => Upto rkR xs a n zz) (a ≤ n ∧ n ≤ xs.length ∧ xs.length ≤ 1000000 ∧ MayAll xs ∧ Swaps g xs.length) := ⟨fun hp w hw => insort_c w0 w L2 xs T g a n (mem_two h.h d1.h q.h d2.h hw) hp⟩
set_option maxRecDepth 20000 in
theorem swrange_c (w0 w : World) (L : List Ent) (xs : List Rt) (T : TypeId) (g : Lsw) (a : Nat) (b : Nat) (n : Nat) (hw : Mem w0 (blk g.b #[g.s.val] T :: own rcells 19 g.s xs :: L) w) (hpre : a + n ≤ b ∧ b + n ≤ xs.length ∧ xs.length ≤ 1000000 ∧ Swaps g xs.length) : Calls Try.prog 106 #[.agg (lscells g), .int .i64 (a : Nat), .int .i64 (b : Nat), .int .i64 (n : Nat)] w fun e w' => ∃ zz : List Rt, e = .returned (.tuple #[]) ∧ (Swr xs zz a b n) ∧ Mem w0 (blk g.b #[g.s.val] T :: own rcells 19 g.s zz :: L) w' := by
 obtain ⟨hp1, hp2, hp3, hsw⟩ := hpre
 refine calls_in (args := [_, _, _, _]) Try.func106 rfl Try.ntmps106 rfl hw ?_
 change Cw _ _ _ _ _ [(0, .agg (lscells g)), (1, .int .i64 (a : Nat)), (2, .int .i64 (b : Nat)), (3, .int .i64 (n : Nat))] (blk g.b #[g.s.val] T :: own rcells 19 g.s xs :: L)
 refine cw_seq ?_
 refine cw_region ?_
 refine sq_boxA rfl fun b4 => ?_
 refine sq_nil ?_
 refine ex_then ?_
 refine cw_seq ?_
 refine cw_region ?_
 refine sq_r (ry_assign rfl) ?_
 refine sq_nil ?_
 refine ex_then ?_
 refine cw_block ?_
 refine cw_loop (X := Nat × List Rt) (fun zz => [(8, .int .i64 (zz.1 : Nat)), (1, .int .i64 (a : Nat)), (2, .int .i64 (b : Nat)), (3, .int .i64 (n : Nat)), (4, .pointer (some ⟨b4, 0, none⟩))]) (fun zz => blk b4 (lscells g) 112 :: blk g.b #[g.s.val] T :: own rcells 19 g.s zz.2 :: L) (fun zz => zz.1 ≤ n ∧ Swr xs zz.2 a b zz.1) (fun zz => n - zz.1) (0, xs) ⟨Nat.zero_le _, Swr.zero⟩ (Sub.cons rfl (Sub.cons rfl (Sub.cons rfl (Sub.cons rfl (Sub.cons rfl (Sub.nil _)))))) (fun w hw => Keep.mem hw) ?_
 rintro ⟨i, ys⟩ ⟨hi1, hi2⟩
 dsimp only
 simp only at hi1 hi2
 have ly := hi2.len
 refine cw_seq ?_
 refine cw_seq ?_
 refine cw_region ?_
 refine sq_r (ry_move rfl) ?_
 refine sq_r (ry_move rfl) ?_
 refine sq_r (ry_int rfl rfl rfl) ?_
 refine sq_nil ?_
 refine ex_then ?_
 refine cw_cond rfl (fun h0 => ?_) (fun h0 => ?_)
 ·
  try simp only [bz0, bz1, bz2, bz3, bz4, bz5, bz6, bz7, bz8, bz9] at h0
  refine cw_skip ?_
  refine ex_then ?_
  refine cw_seq ?_
  refine cw_block ?_
  refine cw_region ?_
  refine sq_r (ry_field (o' := 1) rfl rfl) ?_
  refine sq_r (ry_cellc rfl) ?_
  refine sq_r (ry_move rfl) ?_
  refine sq_r (ry_move rfl) ?_
  refine sq_r (ry_add rfl rfl (by omega)) ?_
  refine sq_r (ry_move rfl) ?_
  refine sq_r (ry_move rfl) ?_
  refine sq_r (ry_add rfl rfl (by omega)) ?_
  refine sq_swap (a + i) (b + i) rfl (hsw (by omega)) rfl (by omega) (by omega) (by omega) (by omega) ?_
  refine sq_nil ?_
  refine ex_block ?_
  refine ex_then ?_
  refine cw_region ?_
  refine sq_r (ry_move rfl) ?_
  refine sq_r (ry_add rfl rfl (by omega)) ?_
  refine sq_r (ry_assign rfl) ?_
  refine sq_nil ?_
  exact ex_again (x := (i, ys)) (i + 1, swp ys (a + i) (b + i)) ⟨by first | omega | (simp only []; omega), hi2.step (by first | omega | (simp only []; omega)) (by first | omega | (simp only []; omega))⟩ (by simp only; omega) (Sub.cons rfl (Sub.cons rfl (Sub.cons rfl (Sub.cons rfl (Sub.cons rfl (Sub.nil _)))))) (fun w hw => Keep.mem hw)
 ·
  try simp only [bz0, bz1, bz2, bz3, bz4, bz5, bz6, bz7, bz8, bz9] at h0
  obtain rfl : i = n := by omega
  refine cw_exit ?_
  refine ex_pass_exit ?_
  refine ex_pass_exit ?_
  refine ex_block_hit ?_
  refine ex_ret (.inr rfl) (res_none rfl) (fun w1 hw => ?_)
  exact ⟨ys, rfl, hi2, Keep.mem hw⟩
instance swrange_i {w0 : World} {L R1 L2 : List Ent} {i j : Nat} {xs : List Rt} {T : TypeId} {g : Lsw} {a : Nat} {b : Nat} {n : Nat} [h : Has L g.b #[g.s.val] T i] [d1 : DelI L i R1] [q : Owns R1 g.s rcells 19 xs j] [d2 : DelI R1 j L2] : FnC Try.prog 106 w0 L [.agg (lscells g), .int .i64 (a : Nat), .int .i64 (b : Nat), .int .i64 (n : Nat)] (List Rt) (fun zz => .tuple #[]) (fun zz => blk g.b #[g.s.val] T :: own rcells 19 g.s zz :: L2) (fun zz => Swr xs zz a b n) (a + n ≤ b ∧ b + n ≤ xs.length ∧ xs.length ≤ 1000000 ∧ Swaps g xs.length) := ⟨fun hp w hw => swrange_c w0 w L2 xs T g a b n (mem_two h.h d1.h q.h d2.h hw) hp⟩
set_option maxRecDepth 20000 in
theorem srotate_c (w0 w : World) (L : List Ent) (xs : List Rt) (T : TypeId) (g : Lsw) (a : Nat) (m : Nat) (n : Nat) (hw : Mem w0 (blk g.b #[g.s.val] T :: own rcells 19 g.s xs :: L) w) (hpre : a < m ∧ m < n ∧ n ≤ xs.length ∧ xs.length ≤ 1000000 ∧ Swaps g xs.length) : Calls Try.prog 103 #[.agg (lscells g), .int .i64 (a : Nat), .int .i64 (m : Nat), .int .i64 (n : Nat)] w fun e w' => ∃ zz : List Rt, e = .returned (.tuple #[]) ∧ (zz = rot xs a m n) ∧ Mem w0 (blk g.b #[g.s.val] T :: own rcells 19 g.s zz :: L) w' := by
 obtain ⟨hp1, hp2, hp3, hp4, hsw⟩ := hpre
 have lr := rot_length (xs := xs) (s := a) (m := m) (e := n) (by omega) (by omega) hp3
 refine calls_in (args := [_, _, _, _]) Try.func103 rfl Try.ntmps103 rfl hw ?_
 change Cw _ _ _ _ _ [(0, .agg (lscells g)), (1, .int .i64 (a : Nat)), (2, .int .i64 (m : Nat)), (3, .int .i64 (n : Nat))] (blk g.b #[g.s.val] T :: own rcells 19 g.s xs :: L)
 refine cw_seq ?_
 refine cw_region ?_
 refine sq_boxA rfl fun b4 => ?_
 refine sq_nil ?_
 refine ex_then ?_
 refine cw_seq ?_
 refine cw_region ?_
 refine sq_r (ry_move rfl) ?_
 refine sq_r (ry_move rfl) ?_
 refine sq_r (Ry.to (v' := .int .i64 ((m - a : Nat) : Int)) (ry_sub rfl rfl (by omega)) (by congr 1 <;> omega)) ?_
 refine sq_r (ry_assign rfl) ?_
 refine sq_nil ?_
 refine ex_then ?_
 refine cw_seq ?_
 refine cw_region ?_
 refine sq_r (ry_move rfl) ?_
 refine sq_r (ry_move rfl) ?_
 refine sq_r (Ry.to (v' := .int .i64 ((n - m : Nat) : Int)) (ry_sub rfl rfl (by omega)) (by congr 1 <;> omega)) ?_
 refine sq_r (ry_assign rfl) ?_
 refine sq_nil ?_
 refine ex_then ?_
 refine cw_seq ?_
 refine cw_block ?_
 refine cw_loop (X := Nat × Nat × List Rt) (fun zz => [(8, .int .i64 (zz.1 : Nat)), (9, .int .i64 (zz.2.1 : Nat)), (2, .int .i64 (m : Nat)), (4, .pointer (some ⟨b4, 0, none⟩))]) (fun zz => blk b4 (lscells g) 112 :: blk g.b #[g.s.val] T :: own rcells 19 g.s zz.2.2 :: L) (fun zz => Turns zz.2.2 (rot xs a m n) m zz.1 zz.2.1 ∧ 0 < zz.1 ∧ 0 < zz.2.1 ∧ zz.2.2.length = xs.length) (fun zz => zz.1 + zz.2.1) (m - a, n - m, xs) ⟨Turns.start (by first | omega | (simp only []; omega)) (by first | omega | (simp only []; omega)) hp3, by first | omega | (simp only []; omega), by first | omega | (simp only []; omega), rfl⟩ (Sub.cons rfl (Sub.cons rfl (Sub.cons rfl (Sub.cons rfl (Sub.nil _))))) (fun w hw => Keep.mem hw) ?_
 rintro ⟨i, j, ys⟩ ⟨hi1, hi2, hi3, hi4⟩
 dsimp only
 simp only at hi1 hi2 hi3 hi4
 obtain ⟨hi5, hi6⟩ := hi1.len
 refine cw_seq ?_
 refine cw_seq ?_
 refine cw_region ?_
 refine sq_r (ry_move rfl) ?_
 refine sq_r (ry_move rfl) ?_
 refine sq_r (ry_int rfl rfl rfl) ?_
 refine sq_nil ?_
 refine ex_then ?_
 refine cw_cond rfl (fun h0 => ?_) (fun h0 => ?_)
 ·
  try simp only [bz0, bz1, bz2, bz3, bz4, bz5, bz6, bz7, bz8, bz9] at h0
  refine cw_skip ?_
  refine ex_then ?_
  refine cw_block ?_
  refine cw_seq ?_
  refine cw_region ?_
  refine sq_r (ry_move rfl) ?_
  refine sq_r (ry_move rfl) ?_
  refine sq_r (ry_int rfl rfl rfl) ?_
  refine sq_nil ?_
  refine ex_then ?_
  refine cw_cond rfl (fun h1 => ?_) (fun h1 => ?_)
  ·
   try simp only [bz0, bz1, bz2, bz3, bz4, bz5, bz6, bz7, bz8, bz9] at h1
   refine cw_seq ?_
   refine cw_region ?_
   refine sq_r (ry_whole rfl) ?_
   refine sq_r (ry_move rfl) ?_
   refine sq_r (ry_move rfl) ?_
   refine sq_r (Ry.to (v' := .int .i64 ((m - i : Nat) : Int)) (ry_sub rfl rfl (by omega)) (by congr 1 <;> omega)) ?_
   refine sq_r (ry_move rfl) ?_
   refine sq_r (ry_move rfl) ?_
   refine sq_callC rfl ⟨by omega, by omega, by omega, fun h => hsw (by omega)⟩ fun x28 hp28 => ?_
   refine sq_nil ?_
   refine ex_then ?_
   refine cw_region ?_
   refine sq_r (ry_move rfl) ?_
   refine sq_r (ry_move rfl) ?_
   refine sq_r (Ry.to (v' := .int .i64 ((i - j : Nat) : Int)) (ry_sub rfl rfl (by omega)) (by congr 1 <;> omega)) ?_
   refine sq_r (ry_assign rfl) ?_
   refine sq_nil ?_
   refine ex_block ?_
   exact ex_again (x := (i, j, ys)) (i - j, j, x28) ⟨hi1.left (by first | omega | (simp only []; omega)) hp28, by first | omega | (simp only []; omega), by first | omega | (simp only []; omega), by rw [hp28.len, hi4]⟩ (by simp only; omega) (Sub.cons rfl (Sub.cons rfl (Sub.cons rfl (Sub.cons rfl (Sub.nil _))))) (fun w hw => Keep.mem hw)
  ·
   try simp only [bz0, bz1, bz2, bz3, bz4, bz5, bz6, bz7, bz8, bz9] at h1
   refine cw_seq ?_
   refine cw_region ?_
   refine sq_r (ry_whole rfl) ?_
   refine sq_r (ry_move rfl) ?_
   refine sq_r (ry_move rfl) ?_
   refine sq_r (Ry.to (v' := .int .i64 ((m - i : Nat) : Int)) (ry_sub rfl rfl (by omega)) (by congr 1 <;> omega)) ?_
   refine sq_r (ry_move rfl) ?_
   refine sq_r (ry_move rfl) ?_
   refine sq_r (ry_add rfl rfl (by omega)) ?_
   refine sq_r (ry_move rfl) ?_
   refine sq_r (Ry.to (v' := .int .i64 ((m + j - i : Nat) : Int)) (ry_sub rfl rfl (by omega)) (by congr 1 <;> omega)) ?_
   refine sq_r (ry_move rfl) ?_
   refine sq_callC rfl ⟨by omega, by omega, by omega, fun h => hsw (by omega)⟩ fun x42 hp42 => ?_
   refine sq_nil ?_
   refine ex_then ?_
   refine cw_region ?_
   refine sq_r (ry_move rfl) ?_
   refine sq_r (ry_move rfl) ?_
   refine sq_r (Ry.to (v' := .int .i64 ((j - i : Nat) : Int)) (ry_sub rfl rfl (by omega)) (by congr 1 <;> omega)) ?_
   refine sq_r (ry_assign rfl) ?_
   refine sq_nil ?_
   refine ex_block ?_
   exact ex_again (x := (i, j, ys)) (i, j - i, x42) ⟨hi1.right (by first | omega | (simp only []; omega)) hp42, by first | omega | (simp only []; omega), by first | omega | (simp only []; omega), by rw [hp42.len, hi4]⟩ (by simp only; omega) (Sub.cons rfl (Sub.cons rfl (Sub.cons rfl (Sub.cons rfl (Sub.nil _))))) (fun w hw => Keep.mem hw)
 ·
  try simp only [bz0, bz1, bz2, bz3, bz4, bz5, bz6, bz7, bz8, bz9] at h0
  obtain rfl : i = j := by omega
  refine cw_exit ?_
  refine ex_pass_exit ?_
  refine ex_pass_exit ?_
  refine ex_block_hit ?_
  refine ex_then ?_
  refine cw_region ?_
  refine sq_r (ry_whole rfl) ?_
  refine sq_r (ry_move rfl) ?_
  refine sq_r (ry_move rfl) ?_
  refine sq_r (Ry.to (v' := .int .i64 ((m - i : Nat) : Int)) (ry_sub rfl rfl (by omega)) (by congr 1 <;> omega)) ?_
  refine sq_r (ry_move rfl) ?_
  refine sq_r (ry_move rfl) ?_
  refine sq_callC rfl ⟨by omega, by omega, by omega, fun h => hsw (by omega)⟩ fun x52 hp52 => ?_
  refine sq_nil ?_
  refine ex_ret (.inr rfl) (res_none rfl) (fun w1 hw => ?_)
  exact ⟨x52, rfl, hi1.done hp52, Keep.mem hw⟩
instance srotate_i {w0 : World} {L R1 L2 : List Ent} {i j : Nat} {xs : List Rt} {T : TypeId} {g : Lsw} {a : Nat} {m : Nat} {n : Nat} [h : Has L g.b #[g.s.val] T i] [d1 : DelI L i R1] [q : Owns R1 g.s rcells 19 xs j] [d2 : DelI R1 j L2] : FnC Try.prog 103 w0 L [.agg (lscells g), .int .i64 (a : Nat), .int .i64 (m : Nat), .int .i64 (n : Nat)] (List Rt) (fun zz => .tuple #[]) (fun zz => blk g.b #[g.s.val] T :: own rcells 19 g.s zz :: L2) (fun zz => zz = rot xs a m n) (a < m ∧ m < n ∧ n ≤ xs.length ∧ xs.length ≤ 1000000 ∧ Swaps g xs.length) := ⟨fun hp w hw => srotate_c w0 w L2 xs T g a m n (mem_two h.h d1.h q.h d2.h hw) hp⟩

end Go.Proofs.Ytldkgicmfbofiaa

/- The merge in place: walked. -/
namespace Go.Proofs.Ytldkgicmfbofiaa
open Go.Eng Go.Kb
set_option maxRecDepth 20000 in
theorem symmerge_s (kk : Nat) (ih : ∀ {w0 : World} {L R1 L2 : List Ent} {i j : Nat} {xs : List Rt} {T : TypeId} {g : Lsw} {a : Nat} {m : Nat} {n : Nat} [h : Has L g.b #[g.s.val] T i] [d1 : DelI L i R1] [q : Owns R1 g.s rcells 19 xs j] [d2 : DelI R1 j L2], FnC Try.prog 98 w0 L [.agg (lscells g), .int .i64 (a : Nat), .int .i64 (m : Nat), .int .i64 (n : Nat)] (List Rt) (fun zz => .tuple #[]) (fun zz => blk g.b #[g.s.val] T :: own rcells 19 g.s zz :: L2) (fun zz => Upto rkR xs a n zz) ((a < m ∧ m < n ∧ n ≤ xs.length ∧ xs.length ≤ 1000000 ∧ MayAll xs ∧ Srt rkR (seg xs a m) ∧ Srt rkR (seg xs m n) ∧ Swaps g xs.length) ∧ n - a < kk)) (w0 w : World) (L : List Ent) (xs : List Rt) (T : TypeId) (g : Lsw) (a : Nat) (m : Nat) (n : Nat) (hw : Mem w0 (blk g.b #[g.s.val] T :: own rcells 19 g.s xs :: L) w) (hpre : a < m ∧ m < n ∧ n ≤ xs.length ∧ xs.length ≤ 1000000 ∧ MayAll xs ∧ Srt rkR (seg xs a m) ∧ Srt rkR (seg xs m n) ∧ Swaps g xs.length) (hk : n - a ≤ kk) : Calls Try.prog 98 #[.agg (lscells g), .int .i64 (a : Nat), .int .i64 (m : Nat), .int .i64 (n : Nat)] w fun e w' => ∃ zz : List Rt, e = .returned (.tuple #[]) ∧ (Upto rkR xs a n zz) ∧ Mem w0 (blk g.b #[g.s.val] T :: own rcells 19 g.s zz :: L) w' := by
 obtain ⟨hp1, hp2, hp3, hp4, hp5, hp6, hp7, hsw⟩ := hpre
 have hsL := (srt_seg (by omega)).1 hp6
 have hsR := (srt_seg hp3).1 hp7
 refine calls_in (args := [_, _, _, _]) Try.func98 rfl Try.ntmps98 rfl hw ?_
 change Cw _ _ _ _ _ [(0, .agg (lscells g)), (1, .int .i64 (a : Nat)), (2, .int .i64 (m : Nat)), (3, .int .i64 (n : Nat))] (blk g.b #[g.s.val] T :: own rcells 19 g.s xs :: L)
 refine cw_seq ?_
 refine cw_region ?_
 refine sq_boxA rfl fun b4 => ?_
 refine sq_nil ?_
 refine ex_then ?_
 refine cw_seq ?_
 refine cw_seq ?_
 refine cw_region ?_
 refine sq_r (ry_move rfl) ?_
 refine sq_r (ry_move rfl) ?_
 refine sq_r (ry_sub rfl rfl (by omega)) ?_
 refine sq_r (ry_int rfl rfl rfl) ?_
 refine sq_nil ?_
 refine ex_then ?_
 refine cw_cond rfl (fun h0 => ?_) (fun h0 => ?_)
 ·
  try simp only [bz0, bz1, bz2, bz3, bz4, bz5, bz6, bz7, bz8, bz9] at h0
  refine cw_seq ?_
  refine cw_region ?_
  refine sq_r (ry_move rfl) ?_
  refine sq_r (ry_assign rfl) ?_
  refine sq_nil ?_
  refine ex_then ?_
  refine cw_seq ?_
  refine cw_region ?_
  refine sq_r (ry_move rfl) ?_
  refine sq_r (ry_assign rfl) ?_
  refine sq_nil ?_
  refine ex_then ?_
  refine cw_seq ?_
  refine cw_block ?_
  refine cw_loop (X := Nat × Nat) (fun zz => [(8, .int .i64 (zz.1 : Nat)), (9, .int .i64 (zz.2 : Nat)), (1, .int .i64 (a : Nat)), (4, .pointer (some ⟨b4, 0, none⟩))]) (fun zz => blk b4 (lscells g) 112 :: blk g.b #[g.s.val] T :: own rcells 19 g.s xs :: L) (fun zz => m ≤ zz.1 ∧ zz.1 ≤ zz.2 ∧ zz.2 ≤ n ∧ (∀ t, m ≤ t → t < zz.1 → rk rkR xs t < rk rkR xs a) ∧ (∀ t, zz.2 ≤ t → t < n → rk rkR xs a ≤ rk rkR xs t)) (fun zz => zz.2 - zz.1) (m, n) ⟨by first | omega | (simp only []; omega), by first | omega | (simp only []; omega), by first | omega | (simp only []; omega), fun t h1 h2 => absurd h2 (Nat.not_lt_of_le h1), fun t h1 h2 => absurd h2 (Nat.not_lt_of_le h1)⟩ (Sub.cons rfl (Sub.cons rfl (Sub.cons rfl (Sub.cons rfl (Sub.nil _))))) (fun w hw => Keep.mem hw) ?_
  rintro ⟨i, j⟩ ⟨hi1, hi2, hi3, hi4, hi5⟩
  dsimp only
  simp only at hi1 hi2 hi3 hi4 hi5
  refine cw_seq ?_
  refine cw_seq ?_
  refine cw_region ?_
  refine sq_r (ry_move rfl) ?_
  refine sq_r (ry_move rfl) ?_
  refine sq_r (ry_int rfl rfl rfl) ?_
  refine sq_nil ?_
  refine ex_then ?_
  refine cw_cond rfl (fun h1 => ?_) (fun h1 => ?_)
  ·
   try simp only [bz0, bz1, bz2, bz3, bz4, bz5, bz6, bz7, bz8, bz9] at h1
   refine cw_skip ?_
   refine ex_then ?_
   refine cw_block ?_
   refine cw_seq ?_
   refine cw_region ?_
   refine sq_r (ry_move rfl) ?_
   refine sq_r (ry_move rfl) ?_
   refine sq_r (ry_add rfl rfl (by omega)) ?_
   refine sq_r (ry_convn rfl (by simp only [nb]; omega)) ?_
   refine sq_r (Ry.to (v' := .int .u64 (((i + j) / 2 ^ 1 : Nat) : Int)) (ry_shr (p := (i + j)) rfl rfl (by simp only [nb]; omega) (by omega)) rfl) ?_
   refine sq_r (ry_convn rfl (by simp only [nb]; omega)) ?_
   refine sq_r (ry_assign rfl) ?_
   refine sq_nil ?_
   refine ex_then ?_
   refine cw_seq ?_
   refine cw_region ?_
   refine sq_r (ry_field (o' := 0) rfl rfl) ?_
   refine sq_r (ry_cellc rfl) ?_
   refine sq_r (ry_move rfl) ?_
   refine sq_r (ry_move rfl) ?_
   refine sq_y (yl_callV (vs := [.int .i64 (((i + j) / 2 ^ 1 : Nat) : Int), .int .i64 (a : Int)]) (vs2 := [.int .i64 (((i + j) / 2 ^ 1 : Nat) : Int), .int .i64 (a : Int), .pointer (some ⟨g.b, 0, none⟩)]) rfl rfl rfl (by omega)) ?_
   refine sq_nil ?_
   refine ex_then ?_
   refine cw_cond rfl (fun h2 => ?_) (fun h2 => ?_)
   ·
    try simp only [bz0, bz1, bz2, bz3, bz4, bz5, bz6, bz7, bz8, bz9] at h2
    rw [lessV_rk hp5 (s := ((i + j) / 2 ^ 1)) (t := a) (by omega) (by omega) (by omega) (by omega), decide_eq_true_eq] at h2
    refine cw_region ?_
    refine sq_r (ry_move rfl) ?_
    refine sq_r (ry_add rfl rfl (by omega)) ?_
    refine sq_r (ry_assign rfl) ?_
    refine sq_nil ?_
    refine ex_block ?_
    exact ex_again (x := (i, j)) (((i + j) / 2 ^ 1) + 1, j) ⟨by first | omega | (simp only []; omega), by first | omega | (simp only []; omega), by first | omega | (simp only []; omega), fun t t1 t2 => Nat.lt_of_le_of_lt (hsR t _ t1 (Nat.le_of_lt_succ t2) (by first | omega | (simp only []; omega))) h2, hi5⟩ (by simp only; omega) (Sub.cons rfl (Sub.cons rfl (Sub.cons rfl (Sub.cons rfl (Sub.nil _))))) (fun w hw => Keep.mem hw)
   ·
    try simp only [bz0, bz1, bz2, bz3, bz4, bz5, bz6, bz7, bz8, bz9] at h2
    rw [lessV_rk hp5 (s := ((i + j) / 2 ^ 1)) (t := a) (by omega) (by omega) (by omega) (by omega), decide_eq_false_iff_not] at h2
    refine cw_region ?_
    refine sq_r (ry_move rfl) ?_
    refine sq_r (ry_assign rfl) ?_
    refine sq_nil ?_
    refine ex_block ?_
    exact ex_again (x := (i, j)) (i, ((i + j) / 2 ^ 1)) ⟨hi1, by first | omega | (simp only []; omega), by first | omega | (simp only []; omega), hi4, fun t t1 t2 => Nat.le_trans (Nat.le_of_not_lt h2) (hsR _ t (by first | omega | (simp only []; omega)) t1 t2)⟩ (by simp only; omega) (Sub.cons rfl (Sub.cons rfl (Sub.cons rfl (Sub.cons rfl (Sub.nil _))))) (fun w hw => Keep.mem hw)
  ·
   try simp only [bz0, bz1, bz2, bz3, bz4, bz5, bz6, bz7, bz8, bz9] at h1
   have hij : i = j := by omega
   refine cw_exit ?_
   refine ex_pass_exit ?_
   refine ex_pass_exit ?_
   refine ex_block_hit ?_
   refine ex_then ?_
   refine cw_seq ?_
   refine cw_seq ?_
   refine cw_region ?_
   refine sq_r (ry_move rfl) ?_
   refine sq_r (ry_assign rfl) ?_
   refine sq_nil ?_
   refine ex_then ?_
   refine cw_block ?_
   refine cw_loop (X := Nat × List Rt) (fun zz => [(11, .int .i64 (zz.1 : Nat)), (4, .pointer (some ⟨b4, 0, none⟩)), (8, .int .i64 (i : Nat))]) (fun zz => blk b4 (lscells g) 112 :: blk g.b #[g.s.val] T :: own rcells 19 g.s zz.2 :: L) (fun zz => Slir xs zz.2 a zz.1 ∧ a ≤ zz.1 ∧ zz.1 + 1 ≤ i) (fun zz => i - zz.1) (a, xs) ⟨Slir.refl, Nat.le_refl _, by first | omega | (simp only []; omega)⟩ (Sub.cons rfl (Sub.cons rfl (Sub.cons rfl (Sub.nil _)))) (fun w hw => Keep.mem hw) ?_
   rintro ⟨k, ts⟩ ⟨hk1, hk2, hk3⟩
   dsimp only
   simp only at hk1 hk2 hk3
   have lt := hk1.len
   refine cw_seq ?_
   refine cw_seq ?_
   refine cw_region ?_
   refine sq_r (ry_move rfl) ?_
   refine sq_r (ry_move rfl) ?_
   refine sq_r (ry_sub rfl rfl (by omega)) ?_
   refine sq_r (ry_int rfl rfl rfl) ?_
   refine sq_nil ?_
   refine ex_then ?_
   refine cw_cond rfl (fun h3 => ?_) (fun h3 => ?_)
   ·
    try simp only [bz0, bz1, bz2, bz3, bz4, bz5, bz6, bz7, bz8, bz9] at h3
    refine cw_skip ?_
    refine ex_then ?_
    refine cw_seq ?_
    refine cw_block ?_
    refine cw_region ?_
    refine sq_r (ry_field (o' := 1) rfl rfl) ?_
    refine sq_r (ry_cellc rfl) ?_
    refine sq_r (ry_move rfl) ?_
    refine sq_r (ry_move rfl) ?_
    refine sq_r (ry_add rfl rfl (by omega)) ?_
    refine sq_swap k (k + 1) rfl (hsw (by omega)) rfl (by omega) (by omega) (by omega) (by omega) ?_
    refine sq_nil ?_
    refine ex_block ?_
    refine ex_then ?_
    refine cw_region ?_
    refine sq_r (ry_move rfl) ?_
    refine sq_r (ry_add rfl rfl (by omega)) ?_
    refine sq_r (ry_assign rfl) ?_
    refine sq_nil ?_
    exact ex_again (x := (k, ts)) (k + 1, swp ts k (k + 1)) ⟨hk1.step hk2 (by first | omega | (simp only []; omega)), by first | omega | (simp only []; omega), by first | omega | (simp only []; omega)⟩ (by simp only; omega) (Sub.cons rfl (Sub.cons rfl (Sub.cons rfl (Sub.nil _)))) (fun w hw => Keep.mem hw)
   ·
    try simp only [bz0, bz1, bz2, bz3, bz4, bz5, bz6, bz7, bz8, bz9] at h3
    have hkk : k = i - 1 := by omega
    refine cw_exit ?_
    refine ex_pass_exit ?_
    refine ex_pass_exit ?_
    refine ex_block_hit ?_
    refine ex_then ?_
    refine cw_ret ?_
    refine ex_pass_ret ?_
    refine ex_ret (.inl rfl) (res_none rfl) (fun w1 hw => ?_)
    exact ⟨ts, rfl, front_done (by rw [← hkk]; exact hk1) (by omega) (by omega) hp3 (by rw [show a + 1 = m by omega]; exact hp7) (fun t t1 t2 => hi4 t (by omega) t2) (fun t t1 t2 => hi5 t (by omega) t2), Keep.mem hw⟩
 ·
  try simp only [bz0, bz1, bz2, bz3, bz4, bz5, bz6, bz7, bz8, bz9] at h0
  refine cw_skip ?_
  refine ex_then ?_
  refine cw_seq ?_
  refine cw_seq ?_
  refine cw_region ?_
  refine sq_r (ry_move rfl) ?_
  refine sq_r (ry_move rfl) ?_
  refine sq_r (ry_sub rfl rfl (by omega)) ?_
  refine sq_r (ry_int rfl rfl rfl) ?_
  refine sq_nil ?_
  refine ex_then ?_
  refine cw_cond rfl (fun h4 => ?_) (fun h4 => ?_)
  ·
   try simp only [bz0, bz1, bz2, bz3, bz4, bz5, bz6, bz7, bz8, bz9] at h4
   refine cw_seq ?_
   refine cw_region ?_
   refine sq_r (ry_move rfl) ?_
   refine sq_r (ry_assign rfl) ?_
   refine sq_nil ?_
   refine ex_then ?_
   refine cw_seq ?_
   refine cw_region ?_
   refine sq_r (ry_move rfl) ?_
   refine sq_r (ry_assign rfl) ?_
   refine sq_nil ?_
   refine ex_then ?_
   refine cw_seq ?_
   refine cw_block ?_
   refine cw_loop (X := Nat × Nat) (fun zz => [(12, .int .i64 (zz.1 : Nat)), (13, .int .i64 (zz.2 : Nat)), (2, .int .i64 (m : Nat)), (4, .pointer (some ⟨b4, 0, none⟩))]) (fun zz => blk b4 (lscells g) 112 :: blk g.b #[g.s.val] T :: own rcells 19 g.s xs :: L) (fun zz => a ≤ zz.1 ∧ zz.1 ≤ zz.2 ∧ zz.2 ≤ m ∧ (∀ t, a ≤ t → t < zz.1 → rk rkR xs t ≤ rk rkR xs m) ∧ (∀ t, zz.2 ≤ t → t < m → rk rkR xs m < rk rkR xs t)) (fun zz => zz.2 - zz.1) (a, m) ⟨by first | omega | (simp only []; omega), by first | omega | (simp only []; omega), by first | omega | (simp only []; omega), fun t h1 h2 => absurd h2 (Nat.not_lt_of_le h1), fun t h1 h2 => absurd h2 (Nat.not_lt_of_le h1)⟩ (Sub.cons rfl (Sub.cons rfl (Sub.cons rfl (Sub.cons rfl (Sub.nil _))))) (fun w hw => Keep.mem hw) ?_
   rintro ⟨i, j⟩ ⟨hi1, hi2, hi3, hi4, hi5⟩
   dsimp only
   simp only at hi1 hi2 hi3 hi4 hi5
   refine cw_seq ?_
   refine cw_seq ?_
   refine cw_region ?_
   refine sq_r (ry_move rfl) ?_
   refine sq_r (ry_move rfl) ?_
   refine sq_r (ry_int rfl rfl rfl) ?_
   refine sq_nil ?_
   refine ex_then ?_
   refine cw_cond rfl (fun h5 => ?_) (fun h5 => ?_)
   ·
    try simp only [bz0, bz1, bz2, bz3, bz4, bz5, bz6, bz7, bz8, bz9] at h5
    refine cw_skip ?_
    refine ex_then ?_
    refine cw_block ?_
    refine cw_seq ?_
    refine cw_region ?_
    refine sq_r (ry_move rfl) ?_
    refine sq_r (ry_move rfl) ?_
    refine sq_r (ry_add rfl rfl (by omega)) ?_
    refine sq_r (ry_convn rfl (by simp only [nb]; omega)) ?_
    refine sq_r (Ry.to (v' := .int .u64 (((i + j) / 2 ^ 1 : Nat) : Int)) (ry_shr (p := (i + j)) rfl rfl (by simp only [nb]; omega) (by omega)) rfl) ?_
    refine sq_r (ry_convn rfl (by simp only [nb]; omega)) ?_
    refine sq_r (ry_assign rfl) ?_
    refine sq_nil ?_
    refine ex_then ?_
    refine cw_seq ?_
    refine cw_region ?_
    refine sq_r (ry_field (o' := 0) rfl rfl) ?_
    refine sq_r (ry_cellc rfl) ?_
    refine sq_r (ry_move rfl) ?_
    refine sq_r (ry_move rfl) ?_
    refine sq_y (yl_callV (vs := [.int .i64 (m : Int), .int .i64 (((i + j) / 2 ^ 1 : Nat) : Int)]) (vs2 := [.int .i64 (m : Int), .int .i64 (((i + j) / 2 ^ 1 : Nat) : Int), .pointer (some ⟨g.b, 0, none⟩)]) rfl rfl rfl (by omega)) ?_
    refine sq_r (ry_not rfl) ?_
    refine sq_nil ?_
    refine ex_then ?_
    refine cw_cond rfl (fun h6 => ?_) (fun h6 => ?_)
    ·
     try simp only [bz0, bz1, bz2, bz3, bz4, bz5, bz6, bz7, bz8, bz9] at h6
     rw [lessV_rk hp5 (s := m) (t := ((i + j) / 2 ^ 1)) (by omega) (by omega) (by omega) (by omega), decide_eq_false_iff_not] at h6
     refine cw_region ?_
     refine sq_r (ry_move rfl) ?_
     refine sq_r (ry_add rfl rfl (by omega)) ?_
     refine sq_r (ry_assign rfl) ?_
     refine sq_nil ?_
     refine ex_block ?_
     exact ex_again (x := (i, j)) (((i + j) / 2 ^ 1) + 1, j) ⟨by first | omega | (simp only []; omega), by first | omega | (simp only []; omega), by first | omega | (simp only []; omega), fun t t1 t2 => Nat.le_trans (hsL t _ t1 (Nat.le_of_lt_succ t2) (by first | omega | (simp only []; omega))) (Nat.le_of_not_lt h6), hi5⟩ (by simp only; omega) (Sub.cons rfl (Sub.cons rfl (Sub.cons rfl (Sub.cons rfl (Sub.nil _))))) (fun w hw => Keep.mem hw)
    ·
     try simp only [bz0, bz1, bz2, bz3, bz4, bz5, bz6, bz7, bz8, bz9] at h6
     rw [lessV_rk hp5 (s := m) (t := ((i + j) / 2 ^ 1)) (by omega) (by omega) (by omega) (by omega), decide_eq_true_eq] at h6
     refine cw_region ?_
     refine sq_r (ry_move rfl) ?_
     refine sq_r (ry_assign rfl) ?_
     refine sq_nil ?_
     refine ex_block ?_
     exact ex_again (x := (i, j)) (i, ((i + j) / 2 ^ 1)) ⟨hi1, by first | omega | (simp only []; omega), by first | omega | (simp only []; omega), hi4, fun t t1 t2 => Nat.lt_of_lt_of_le h6 (hsL _ t (by first | omega | (simp only []; omega)) t1 t2)⟩ (by simp only; omega) (Sub.cons rfl (Sub.cons rfl (Sub.cons rfl (Sub.cons rfl (Sub.nil _))))) (fun w hw => Keep.mem hw)
   ·
    try simp only [bz0, bz1, bz2, bz3, bz4, bz5, bz6, bz7, bz8, bz9] at h5
    have hij : i = j := by omega
    refine cw_exit ?_
    refine ex_pass_exit ?_
    refine ex_pass_exit ?_
    refine ex_block_hit ?_
    refine ex_then ?_
    refine cw_seq ?_
    refine cw_seq ?_
    refine cw_region ?_
    refine sq_r (ry_move rfl) ?_
    refine sq_r (ry_assign rfl) ?_
    refine sq_nil ?_
    refine ex_then ?_
    refine cw_block ?_
    refine cw_loop (X := Nat × List Rt) (fun zz => [(15, .int .i64 (zz.1 : Nat)), (4, .pointer (some ⟨b4, 0, none⟩)), (12, .int .i64 (i : Nat))]) (fun zz => blk b4 (lscells g) 112 :: blk g.b #[g.s.val] T :: own rcells 19 g.s zz.2 :: L) (fun zz => Slid xs zz.2 m zz.1 ∧ i ≤ zz.1 ∧ zz.1 ≤ m) (fun zz => zz.1) (m, xs) ⟨Slid.refl, by first | omega | (simp only []; omega), Nat.le_refl _⟩ (Sub.cons rfl (Sub.cons rfl (Sub.cons rfl (Sub.nil _)))) (fun w hw => Keep.mem hw) ?_
    rintro ⟨k, ts⟩ ⟨hk1, hk2, hk3⟩
    dsimp only
    simp only at hk1 hk2 hk3
    have lt := hk1.len
    refine cw_seq ?_
    refine cw_seq ?_
    refine cw_region ?_
    refine sq_r (ry_move rfl) ?_
    refine sq_r (ry_move rfl) ?_
    refine sq_r (ry_int rfl rfl rfl) ?_
    refine sq_nil ?_
    refine ex_then ?_
    refine cw_cond rfl (fun h7 => ?_) (fun h7 => ?_)
    ·
     try simp only [bz0, bz1, bz2, bz3, bz4, bz5, bz6, bz7, bz8, bz9] at h7
     refine cw_skip ?_
     refine ex_then ?_
     refine cw_seq ?_
     refine cw_block ?_
     refine cw_region ?_
     refine sq_r (ry_field (o' := 1) rfl rfl) ?_
     refine sq_r (ry_cellc rfl) ?_
     refine sq_r (ry_move rfl) ?_
     refine sq_r (ry_move rfl) ?_
     refine sq_r (ry_sub rfl rfl (by omega)) ?_
     refine sq_swap k (k - 1) rfl (hsw (by omega)) rfl (by omega) (by omega) (by omega) (by omega) ?_
     refine sq_nil ?_
     refine ex_block ?_
     refine ex_then ?_
     refine cw_region ?_
     refine sq_r (ry_move rfl) ?_
     refine sq_r (ry_sub rfl rfl (by omega)) ?_
     refine sq_r (ry_assign rfl) ?_
     refine sq_nil ?_
     exact ex_again (x := (k, ts)) (k - 1, swp ts k (k - 1)) ⟨hk1.step (by first | omega | (simp only []; omega)) hk3 (by first | omega | (simp only []; omega)), by first | omega | (simp only []; omega), by first | omega | (simp only []; omega)⟩ (by simp only; omega) (Sub.cons (look_eq rfl (by congr 1; omega)) (Sub.cons rfl (Sub.cons rfl (Sub.nil _)))) (fun w hw => Keep.mem hw)
    ·
     try simp only [bz0, bz1, bz2, bz3, bz4, bz5, bz6, bz7, bz8, bz9] at h7
     have hkk : k = i := by omega
     refine cw_exit ?_
     refine ex_pass_exit ?_
     refine ex_pass_exit ?_
     refine ex_block_hit ?_
     refine ex_then ?_
     refine cw_ret ?_
     refine ex_pass_ret ?_
     refine ex_ret (.inl rfl) (res_none rfl) (fun w1 hw => ?_)
     exact ⟨ts, rfl, by rw [show n = m + 1 by omega]; exact ins_done (Upto.refl (by omega) (by omega) hp6) (by omega) (by omega) hk1 (by omega) hk3 (fun t t1 t2 => hi5 t (by omega) t2) ((Nat.eq_or_lt_of_le (show a ≤ k by omega)).elim (fun h => .inl h.symm) fun h => .inr (hi4 (k - 1) (by omega) (by omega))), Keep.mem hw⟩
  ·
   try simp only [bz0, bz1, bz2, bz3, bz4, bz5, bz6, bz7, bz8, bz9] at h4
   refine cw_skip ?_
   refine ex_then ?_
   refine cw_seq ?_
   obtain ⟨d, hd⟩ : ∃ d, d = (a + n) / 2 ^ 1 := ⟨_, rfl⟩
   refine cw_region ?_
   refine sq_r (ry_move rfl) ?_
   refine sq_r (ry_move rfl) ?_
   refine sq_r (ry_add rfl rfl (by omega)) ?_
   refine sq_r (ry_convn rfl (by simp only [nb]; omega)) ?_
   refine sq_r (Ry.to (v' := .int .u64 (((a + n) / 2 ^ 1 : Nat) : Int)) (ry_shr (p := (a + n)) rfl rfl (by simp only [nb]; omega) (by omega)) rfl) ?_
   refine sq_r (Ry.to (v' := .int .i64 ((d : Nat) : Int)) (ry_convn rfl (by simp only [nb]; omega)) (by rw [hd])) ?_
   refine sq_r (ry_assign rfl) ?_
   refine sq_nil ?_
   refine ex_then ?_
   refine cw_seq ?_
   refine cw_region ?_
   refine sq_r (ry_move rfl) ?_
   refine sq_r (ry_move rfl) ?_
   refine sq_r (ry_add rfl rfl (by omega)) ?_
   refine sq_r (ry_assign rfl) ?_
   refine sq_nil ?_
   refine ex_then ?_
   refine cw_seq ?_
   refine cw_region ?_
   refine sq_r (ry_assign rfl) ?_
   refine sq_r (ry_assign rfl) ?_
   refine sq_nil ?_
   refine ex_then ?_
   refine cw_cut (X := Nat × Nat) (fun zz => [(18, .int .i64 (zz.1 : Nat)), (19, .int .i64 (zz.2 : Nat)), (1, .int .i64 (a : Nat)), (2, .int .i64 (m : Nat)), (3, .int .i64 (n : Nat)), (4, .pointer (some ⟨b4, 0, none⟩)), (16, .int .i64 (d : Nat)), (17, .int .i64 ((d + m) : Nat))]) (fun zz => blk b4 (lscells g) 112 :: blk g.b #[g.s.val] T :: own rcells 19 g.s xs :: L) (fun zz => a ≤ zz.1 ∧ zz.1 ≤ zz.2 ∧ zz.2 ≤ m ∧ zz.2 ≤ d ∧ d + m ≤ zz.1 + n ∧ (zz.1 = a ∨ zz.1 + n = d + m) ∧ (zz.2 = m ∨ zz.2 = d)) ?_ ?_
   ·
    refine cw_seq ?_
    refine cw_region ?_
    refine sq_r (ry_move rfl) ?_
    refine sq_r (ry_move rfl) ?_
    refine sq_r (ry_int rfl rfl rfl) ?_
    refine sq_nil ?_
    refine ex_then ?_
    refine cw_cond rfl (fun h8 => ?_) (fun h8 => ?_)
    ·
     try simp only [bz0, bz1, bz2, bz3, bz4, bz5, bz6, bz7, bz8, bz9] at h8
     refine cw_seq ?_
     refine cw_region ?_
     refine sq_r (ry_move rfl) ?_
     refine sq_r (ry_move rfl) ?_
     refine sq_r (Ry.to (v' := .int .i64 ((d + m - n : Nat) : Int)) (ry_sub rfl rfl (by omega)) (by congr 1 <;> omega)) ?_
     refine sq_r (ry_assign rfl) ?_
     refine sq_nil ?_
     refine ex_then ?_
     refine cw_region ?_
     refine sq_r (ry_move rfl) ?_
     refine sq_r (ry_assign rfl) ?_
     refine sq_nil ?_
     exact ex_meet (d + m - n, d) ⟨by first | omega | (simp only []; omega), by first | omega | (simp only []; omega), by first | omega | (simp only []; omega), by first | omega | (simp only []; omega), by first | omega | (simp only []; omega), .inr (by first | omega | (simp only []; omega)), .inr rfl⟩ (Sub.cons rfl (Sub.cons rfl (Sub.cons rfl (Sub.cons rfl (Sub.cons rfl (Sub.cons rfl (Sub.cons rfl (Sub.cons rfl (Sub.nil _))))))))) (fun w hw => Keep.mem hw)
    ·
     try simp only [bz0, bz1, bz2, bz3, bz4, bz5, bz6, bz7, bz8, bz9] at h8
     refine cw_seq ?_
     refine cw_region ?_
     refine sq_r (ry_move rfl) ?_
     refine sq_r (ry_assign rfl) ?_
     refine sq_nil ?_
     refine ex_then ?_
     refine cw_region ?_
     refine sq_r (ry_move rfl) ?_
     refine sq_r (ry_assign rfl) ?_
     refine sq_nil ?_
     exact ex_meet (a, m) ⟨by first | omega | (simp only []; omega), by first | omega | (simp only []; omega), by first | omega | (simp only []; omega), by first | omega | (simp only []; omega), by first | omega | (simp only []; omega), .inl rfl, .inl rfl⟩ (Sub.cons rfl (Sub.cons rfl (Sub.cons rfl (Sub.cons rfl (Sub.cons rfl (Sub.cons rfl (Sub.cons rfl (Sub.cons rfl (Sub.nil _))))))))) (fun w hw => Keep.mem hw)
   ·
    rintro ⟨s0, r0⟩ ⟨hj1, hj2, hj3, hj4, hj5, hj6, hj7⟩
    dsimp only
    simp only at hj1 hj2 hj3 hj4 hj5 hj6 hj7
    refine cw_seq ?_
    refine cw_region ?_
    refine sq_r (ry_move rfl) ?_
    refine sq_r (Ry.to (v' := .int .i64 ((d + m - 1 : Nat) : Int)) (ry_sub rfl rfl (by omega)) (by congr 1 <;> omega)) ?_
    refine sq_r (ry_assign rfl) ?_
    refine sq_nil ?_
    refine ex_then ?_
    refine cw_seq ?_
    refine cw_block ?_
    refine cw_loop (X := Nat × Nat) (fun zz => [(18, .int .i64 (zz.1 : Nat)), (19, .int .i64 (zz.2 : Nat)), (1, .int .i64 (a : Nat)), (2, .int .i64 (m : Nat)), (3, .int .i64 (n : Nat)), (4, .pointer (some ⟨b4, 0, none⟩)), (16, .int .i64 (d : Nat)), (17, .int .i64 ((d + m) : Nat)), (20, .int .i64 ((d + m - 1) : Nat))]) (fun zz => blk b4 (lscells g) 112 :: blk g.b #[g.s.val] T :: own rcells 19 g.s xs :: L) (fun zz => s0 ≤ zz.1 ∧ zz.1 ≤ zz.2 ∧ zz.2 ≤ r0 ∧ (zz.1 = s0 ∨ rk rkR xs (zz.1 - 1) ≤ rk rkR xs (d + m - zz.1)) ∧ (zz.2 = r0 ∨ rk rkR xs (d + m - 1 - zz.2) < rk rkR xs zz.2)) (fun zz => zz.2 - zz.1) (s0, r0) ⟨by first | omega | (simp only []; omega), by first | omega | (simp only []; omega), by first | omega | (simp only []; omega), .inl rfl, .inl rfl⟩ (Sub.cons rfl (Sub.cons rfl (Sub.cons rfl (Sub.cons rfl (Sub.cons rfl (Sub.cons rfl (Sub.cons rfl (Sub.cons rfl (Sub.cons rfl (Sub.nil _)))))))))) (fun w hw => Keep.mem hw) ?_
    rintro ⟨s, r⟩ ⟨hi1, hi2, hi3, hi4, hi5⟩
    dsimp only
    simp only at hi1 hi2 hi3 hi4 hi5
    refine cw_seq ?_
    refine cw_seq ?_
    refine cw_region ?_
    refine sq_r (ry_move rfl) ?_
    refine sq_r (ry_move rfl) ?_
    refine sq_r (ry_int rfl rfl rfl) ?_
    refine sq_nil ?_
    refine ex_then ?_
    refine cw_cond rfl (fun h9 => ?_) (fun h9 => ?_)
    ·
     try simp only [bz0, bz1, bz2, bz3, bz4, bz5, bz6, bz7, bz8, bz9] at h9
     refine cw_skip ?_
     refine ex_then ?_
     refine cw_block ?_
     refine cw_seq ?_
     refine cw_region ?_
     refine sq_r (ry_move rfl) ?_
     refine sq_r (ry_move rfl) ?_
     refine sq_r (ry_add rfl rfl (by omega)) ?_
     refine sq_r (ry_convn rfl (by simp only [nb]; omega)) ?_
     refine sq_r (Ry.to (v' := .int .u64 (((s + r) / 2 ^ 1 : Nat) : Int)) (ry_shr (p := (s + r)) rfl rfl (by simp only [nb]; omega) (by omega)) rfl) ?_
     refine sq_r (ry_convn rfl (by simp only [nb]; omega)) ?_
     refine sq_r (ry_assign rfl) ?_
     refine sq_nil ?_
     refine ex_then ?_
     refine cw_seq ?_
     refine cw_region ?_
     refine sq_r (ry_field (o' := 0) rfl rfl) ?_
     refine sq_r (ry_cellc rfl) ?_
     refine sq_r (ry_move rfl) ?_
     refine sq_r (ry_move rfl) ?_
     refine sq_r (Ry.to (v' := .int .i64 (((d + m - 1 - (s + r) / 2 ^ 1) : Nat) : Int)) (ry_sub rfl rfl (by omega)) (by congr 1 <;> omega)) ?_
     refine sq_r (ry_move rfl) ?_
     refine sq_y (yl_callV (vs := [.int .i64 (((d + m - 1 - (s + r) / 2 ^ 1) : Nat) : Int), .int .i64 ((((s + r) / 2 ^ 1) : Nat) : Int)]) (vs2 := [.int .i64 (((d + m - 1 - (s + r) / 2 ^ 1) : Nat) : Int), .int .i64 ((((s + r) / 2 ^ 1) : Nat) : Int), .pointer (some ⟨g.b, 0, none⟩)]) rfl rfl rfl (by omega)) ?_
     refine sq_r (ry_not rfl) ?_
     refine sq_nil ?_
     refine ex_then ?_
     refine cw_cond rfl (fun h10 => ?_) (fun h10 => ?_)
     ·
      try simp only [bz0, bz1, bz2, bz3, bz4, bz5, bz6, bz7, bz8, bz9] at h10
      rw [lessV_rk hp5 (s := (d + m - 1 - (s + r) / 2 ^ 1)) (t := ((s + r) / 2 ^ 1)) (by omega) (by omega) (by omega) (by omega), decide_eq_false_iff_not] at h10
      refine cw_region ?_
      refine sq_r (ry_move rfl) ?_
      refine sq_r (ry_add rfl rfl (by omega)) ?_
      refine sq_r (ry_assign rfl) ?_
      refine sq_nil ?_
      refine ex_block ?_
      exact ex_again (x := (s, r)) (((s + r) / 2 ^ 1) + 1, r) ⟨by first | omega | (simp only []; omega), by first | omega | (simp only []; omega), by first | omega | (simp only []; omega), .inr (by rw [Nat.add_sub_cancel, show d + m - (((s + r) / 2 ^ 1) + 1) = (d + m - 1 - (s + r) / 2 ^ 1) by first | omega | (simp only []; omega)]; exact Nat.le_of_not_lt h10), hi5⟩ (by simp only; omega) (Sub.cons rfl (Sub.cons rfl (Sub.cons rfl (Sub.cons rfl (Sub.cons rfl (Sub.cons rfl (Sub.cons rfl (Sub.cons rfl (Sub.cons rfl (Sub.nil _)))))))))) (fun w hw => Keep.mem hw)
     ·
      try simp only [bz0, bz1, bz2, bz3, bz4, bz5, bz6, bz7, bz8, bz9] at h10
      rw [lessV_rk hp5 (s := (d + m - 1 - (s + r) / 2 ^ 1)) (t := ((s + r) / 2 ^ 1)) (by omega) (by omega) (by omega) (by omega), decide_eq_true_eq] at h10
      refine cw_region ?_
      refine sq_r (ry_move rfl) ?_
      refine sq_r (ry_assign rfl) ?_
      refine sq_nil ?_
      refine ex_block ?_
      exact ex_again (x := (s, r)) (s, ((s + r) / 2 ^ 1)) ⟨hi1, by first | omega | (simp only []; omega), by first | omega | (simp only []; omega), hi4, .inr h10⟩ (by simp only; omega) (Sub.cons rfl (Sub.cons rfl (Sub.cons rfl (Sub.cons rfl (Sub.cons rfl (Sub.cons rfl (Sub.cons rfl (Sub.cons rfl (Sub.cons rfl (Sub.nil _)))))))))) (fun w hw => Keep.mem hw)
    ·
     try simp only [bz0, bz1, bz2, bz3, bz4, bz5, bz6, bz7, bz8, bz9] at h9
     refine cw_exit ?_
     refine ex_pass_exit ?_
     refine ex_pass_exit ?_
     refine ex_block_hit ?_
     refine ex_then ?_
     refine cw_seq ?_
     obtain ⟨e, he⟩ : ∃ e, e = d + m - s := ⟨_, rfl⟩
     have f1 : a ≤ s := by omega
     have f2 : s ≤ m := by omega
     have f3 : m ≤ e := by omega
     have f4 : e ≤ n := by omega
     have f5 : s + (e - m) = d := by omega
     have k1 := sym_k1 hp6 hp7 f1 f2 f3 f4 hp3 (by
      rcases hi5 with h | h
      ·
       rcases hj7 with h' | h'
       ·
        left; omega
       ·
        right; left; omega
      ·
       right; right; rw [show e - 1 = d + m - 1 - r by omega, show s = r by omega]; exact h)
     have k2 := sym_k2 hp6 hp7 f1 f2 f3 f4 hp3 (by
      rcases hi4 with h | h
      ·
       rcases hj6 with h' | h'
       ·
        left; omega
       ·
        right; left; omega
      ·
       right; right; rw [he]; exact h)
     have lr := rot_length (xs := xs) f2 f3 (show e ≤ xs.length by omega)
     obtain ⟨g1, g2, g3, g4⟩ := rot_segs (xs := xs) f1 f2 f3 f4 hp3
     rw [f5] at g2 g3
     have hmr : MayAll (rot xs s m e) := fun x hx => hp5 x (rot_mem f2 f3 (by omega) hx)
     have q1 : Srt rkR (seg (rot xs s m e) a s) := by rw [g1]; exact srt_sub hp6 (by omega) (Nat.le_refl _) f2
     have q2 : Srt rkR (seg (rot xs s m e) s d) := by rw [g2]; exact srt_sub hp7 hp3 (Nat.le_refl _) f4
     have q3 : Srt rkR (seg (rot xs s m e) d e) := by rw [g3]; exact srt_sub hp6 (by omega) f1 (Nat.le_refl _)
     have q4 : Srt rkR (seg (rot xs s m e) e n) := by rw [g4]; exact srt_sub hp7 hp3 f3 (Nat.le_refl _)
     refine cw_region ?_
     refine sq_r (ry_move rfl) ?_
     refine sq_r (ry_move rfl) ?_
     refine sq_r (Ry.to (v' := .int .i64 ((e : Nat) : Int)) (ry_sub rfl rfl (by omega)) (by congr 1 <;> omega)) ?_
     refine sq_r (ry_assign rfl) ?_
     refine sq_nil ?_
     refine ex_then ?_
     refine cw_cut (X := Unit) (fun zz => [(1, .int .i64 (a : Nat)), (3, .int .i64 (n : Nat)), (4, .pointer (some ⟨b4, 0, none⟩)), (16, .int .i64 (d : Nat)), (18, .int .i64 (s : Nat)), (22, .int .i64 (e : Nat))]) (fun zz => blk b4 (lscells g) 112 :: blk g.b #[g.s.val] T :: own rcells 19 g.s (rot xs s m e) :: L) (fun zz => True) ?_ ?_
     ·
      refine cw_seq ?_
      refine cw_region ?_
      refine sq_r (ry_move rfl) ?_
      refine sq_r (ry_move rfl) ?_
      refine sq_r (ry_int rfl rfl rfl) ?_
      refine sq_r (ry_move rfl) ?_
      refine sq_gt rfl rfl rfl (fun hg => (Ry.yl (ry_move rfl))) ?_
      refine sq_gt rfl rfl rfl (fun hg => (Ry.yl (ry_move rfl))) ?_
      refine sq_gt rfl rfl rfl (fun hg => (Ry.yl (ry_int (ev_c hg rfl) (ev_c hg rfl) rfl))) ?_
      refine sq_r (ry_and rfl rfl rfl) ?_
      refine sq_nil ?_
      refine ex_then ?_
      refine cw_cond rfl (fun h11 => ?_) (fun h11 => ?_)
      ·
       try simp only [bz0, bz1, bz2, bz3, bz4, bz5, bz6, bz7, bz8, bz9] at h11
       refine cw_region ?_
       refine sq_r (ry_whole rfl) ?_
       refine sq_r (ry_move rfl) ?_
       refine sq_r (ry_move rfl) ?_
       refine sq_r (ry_move rfl) ?_
       refine sq_callC rfl ⟨by omega, by omega, by omega, by omega, hsw⟩ fun x150 hp150 => ?_
       refine sq_nil ?_
       exact ex_meet () trivial (Sub.cons rfl (Sub.cons rfl (Sub.cons rfl (Sub.cons rfl (Sub.cons rfl (Sub.cons rfl (Sub.nil _))))))) (fun w hw => by rw [hp150] at hw; exact Keep.mem hw)
      ·
       try simp only [bz0, bz1, bz2, bz3, bz4, bz5, bz6, bz7, bz8, bz9] at h11
       refine cw_skip ?_
       exact ex_meet () trivial (Sub.cons rfl (Sub.cons rfl (Sub.cons rfl (Sub.cons rfl (Sub.cons rfl (Sub.cons rfl (Sub.nil _))))))) (fun w hw => by rw [rot_same f2 f3 (by omega) (by omega)]; exact Keep.mem hw)
     ·
      rintro ⟨⟩ hJ
      refine cw_cut (X := List Rt) (fun zz => [(3, .int .i64 (n : Nat)), (4, .pointer (some ⟨b4, 0, none⟩)), (16, .int .i64 (d : Nat)), (22, .int .i64 (e : Nat))]) (fun zz => blk b4 (lscells g) 112 :: blk g.b #[g.s.val] T :: own rcells 19 g.s zz :: L) (fun zz => Upto rkR (rot xs s m e) a d zz) ?_ ?_
      ·
       refine cw_seq ?_
       refine cw_region ?_
       refine sq_r (ry_move rfl) ?_
       refine sq_r (ry_move rfl) ?_
       refine sq_r (ry_int rfl rfl rfl) ?_
       refine sq_r (ry_move rfl) ?_
       refine sq_gt rfl rfl rfl (fun hg => (Ry.yl (ry_move rfl))) ?_
       refine sq_gt rfl rfl rfl (fun hg => (Ry.yl (ry_move rfl))) ?_
       refine sq_gt rfl rfl rfl (fun hg => (Ry.yl (ry_int (ev_c hg rfl) (ev_c hg rfl) rfl))) ?_
       refine sq_r (ry_and rfl rfl rfl) ?_
       refine sq_nil ?_
       refine ex_then ?_
       refine cw_cond rfl (fun h12 => ?_) (fun h12 => ?_)
       ·
        try simp only [bz0, bz1, bz2, bz3, bz4, bz5, bz6, bz7, bz8, bz9] at h12
        refine cw_region ?_
        refine sq_r (ry_whole rfl) ?_
        refine sq_r (ry_move rfl) ?_
        refine sq_r (ry_move rfl) ?_
        refine sq_r (ry_move rfl) ?_
        refine sq_callC rfl ⟨⟨by omega, by omega, by omega, by omega, hmr, q1, q2, fun h => hsw (by omega)⟩, by omega⟩ fun x163 hp163 => ?_
        refine sq_nil ?_
        exact ex_meet x163 hp163 (Sub.cons rfl (Sub.cons rfl (Sub.cons rfl (Sub.cons rfl (Sub.nil _))))) (fun w hw => Keep.mem hw)
       ·
        try simp only [bz0, bz1, bz2, bz3, bz4, bz5, bz6, bz7, bz8, bz9] at h12
        refine cw_skip ?_
        exact ex_meet (rot xs s m e) (two_skip f1 (by first | omega | (simp only []; omega)) (by first | omega | (simp only []; omega)) (by first | omega | (simp only []; omega)) q1 q2) (Sub.cons rfl (Sub.cons rfl (Sub.cons rfl (Sub.cons rfl (Sub.nil _))))) (fun w hw => Keep.mem hw)
      ·
       rintro ys hu
       have ly := hu.length (by omega) (by omega)
       have hmy : MayAll ys := fun x hx => hmr x ((upto_same hu (by omega) (by omega)).1 hx)
       have q5 : Srt rkR (seg ys d e) := by rw [upto_behind hu (by omega) (Nat.le_refl _) (by omega) (by omega)]; exact q3
       have q6 : Srt rkR (seg ys e n) := by rw [upto_behind hu (by omega) (by omega) (by omega) (by omega)]; exact q4
       refine cw_seq ?_
       refine cw_region ?_
       refine sq_r (ry_move rfl) ?_
       refine sq_r (ry_move rfl) ?_
       refine sq_r (ry_int rfl rfl rfl) ?_
       refine sq_r (ry_move rfl) ?_
       refine sq_gt rfl rfl rfl (fun hg => (Ry.yl (ry_move rfl))) ?_
       refine sq_gt rfl rfl rfl (fun hg => (Ry.yl (ry_move rfl))) ?_
       refine sq_gt rfl rfl rfl (fun hg => (Ry.yl (ry_int (ev_c hg rfl) (ev_c hg rfl) rfl))) ?_
       refine sq_r (ry_and rfl rfl rfl) ?_
       refine sq_nil ?_
       refine ex_then ?_
       refine cw_cond rfl (fun h13 => ?_) (fun h13 => ?_)
       ·
        try simp only [bz0, bz1, bz2, bz3, bz4, bz5, bz6, bz7, bz8, bz9] at h13
        refine cw_region ?_
        refine sq_r (ry_whole rfl) ?_
        refine sq_r (ry_move rfl) ?_
        refine sq_r (ry_move rfl) ?_
        refine sq_r (ry_move rfl) ?_
        refine sq_callC rfl ⟨⟨by omega, by omega, by omega, by omega, hmy, q5, q6, fun h => hsw (by omega)⟩, by omega⟩ fun x176 hp176 => ?_
        refine sq_nil ?_
        refine ex_ret (.inr rfl) (res_none rfl) (fun w1 hw => ?_)
        exact ⟨x176, rfl, sym_done f1 f2 f3 f4 hp3 hp6 hp7 k1 k2 (by rw [f5]; exact hu) (by rw [f5]; exact hp176), Keep.mem hw⟩
       ·
        try simp only [bz0, bz1, bz2, bz3, bz4, bz5, bz6, bz7, bz8, bz9] at h13
        refine cw_skip ?_
        refine ex_ret (.inr rfl) (res_none rfl) (fun w1 hw => ?_)
        exact ⟨ys, rfl, sym_done f1 f2 f3 f4 hp3 hp6 hp7 k1 k2 (by rw [f5]; exact hu) (by rw [f5]; exact two_skip (by omega) (by omega) (by omega) (by omega) q5 q6), Keep.mem hw⟩
theorem symmerge_a (kk : Nat) : ∀ (w0 w : World) (L : List Ent) (xs : List Rt) (T : TypeId) (g : Lsw) (a : Nat) (m : Nat) (n : Nat) (hw : Mem w0 (blk g.b #[g.s.val] T :: own rcells 19 g.s xs :: L) w) (hpre : a < m ∧ m < n ∧ n ≤ xs.length ∧ xs.length ≤ 1000000 ∧ MayAll xs ∧ Srt rkR (seg xs a m) ∧ Srt rkR (seg xs m n) ∧ Swaps g xs.length), n - a < kk → Calls Try.prog 98 #[.agg (lscells g), .int .i64 (a : Nat), .int .i64 (m : Nat), .int .i64 (n : Nat)] w fun e w' => ∃ zz : List Rt, e = .returned (.tuple #[]) ∧ (Upto rkR xs a n zz) ∧ Mem w0 (blk g.b #[g.s.val] T :: own rcells 19 g.s zz :: L) w' := by
 induction kk with
 | zero => intros; omega
 | succ kk ih =>
  intro w0 w L xs T g a m n hw hpre hk
  exact symmerge_s kk (by
   intro w0 L R1 L2 i j xs T g a m n h d1 q d2
   exact ⟨fun hp w hw => ih w0 w L2 xs T g a m n (mem_two h.h d1.h q.h d2.h hw) hp.1 hp.2⟩) w0 w L xs T g a m n hw hpre (by omega)
theorem symmerge_c (w0 w : World) (L : List Ent) (xs : List Rt) (T : TypeId) (g : Lsw) (a : Nat) (m : Nat) (n : Nat) (hw : Mem w0 (blk g.b #[g.s.val] T :: own rcells 19 g.s xs :: L) w) (hpre : a < m ∧ m < n ∧ n ≤ xs.length ∧ xs.length ≤ 1000000 ∧ MayAll xs ∧ Srt rkR (seg xs a m) ∧ Srt rkR (seg xs m n) ∧ Swaps g xs.length) : Calls Try.prog 98 #[.agg (lscells g), .int .i64 (a : Nat), .int .i64 (m : Nat), .int .i64 (n : Nat)] w fun e w' => ∃ zz : List Rt, e = .returned (.tuple #[]) ∧ (Upto rkR xs a n zz) ∧ Mem w0 (blk g.b #[g.s.val] T :: own rcells 19 g.s zz :: L) w' := symmerge_a (n - a + 1) w0 w L xs T g a m n hw hpre (Nat.lt_succ_self _)
instance symmerge_i {w0 : World} {L R1 L2 : List Ent} {i j : Nat} {xs : List Rt} {T : TypeId} {g : Lsw} {a : Nat} {m : Nat} {n : Nat} [h : Has L g.b #[g.s.val] T i] [d1 : DelI L i R1] [q : Owns R1 g.s rcells 19 xs j] [d2 : DelI R1 j L2] : FnC Try.prog 98 w0 L [.agg (lscells g), .int .i64 (a : Nat), .int .i64 (m : Nat), .int .i64 (n : Nat)] (List Rt) (fun zz => .tuple #[]) (fun zz => blk g.b #[g.s.val] T :: own rcells 19 g.s zz :: L2) (fun zz => Upto rkR xs a n zz) (a < m ∧ m < n ∧ n ≤ xs.length ∧ xs.length ≤ 1000000 ∧ MayAll xs ∧ Srt rkR (seg xs a m) ∧ Srt rkR (seg xs m n) ∧ Swaps g xs.length) := ⟨fun hp w hw => symmerge_c w0 w L2 xs T g a m n (mem_two h.h d1.h q.h d2.h hw) hp⟩

end Go.Proofs.Ytldkgicmfbofiaa

/- A stable sort: walked. -/
namespace Go.Proofs.Ytldkgicmfbofiaa
open Go.Eng Go.Kb
set_option maxRecDepth 20000 in
theorem stable_c (w0 w : World) (L : List Ent) (xs : List Rt) (T : TypeId) (g : Lsw) (n : Nat) (hw : Mem w0 (blk g.b #[g.s.val] T :: own rcells 19 g.s xs :: L) w) (hpre : n = xs.length ∧ xs.length ≤ 1000000 ∧ MayAll xs ∧ Swaps g xs.length) : Calls Try.prog 78 #[.agg (lscells g), .int .i64 (n : Nat)] w fun e w' => ∃ zz : List Rt, e = .returned (.tuple #[]) ∧ (Upto rkR xs 0 n zz) ∧ Mem w0 (blk g.b #[g.s.val] T :: own rcells 19 g.s zz :: L) w' := by
 obtain ⟨hp1, hp2, hp3, hsw⟩ := hpre
 refine calls_in (args := [_, _]) Try.func78 rfl Try.ntmps78 rfl hw ?_
 change Cw _ _ _ _ _ [(0, .agg (lscells g)), (1, .int .i64 (n : Nat))] (blk g.b #[g.s.val] T :: own rcells 19 g.s xs :: L)
 refine cw_seq ?_
 refine cw_region ?_
 refine sq_boxA rfl fun b2 => ?_
 refine sq_nil ?_
 refine ex_then ?_
 refine cw_seq ?_
 refine cw_region ?_
 refine sq_r (ry_assign rfl) ?_
 refine sq_nil ?_
 refine ex_then ?_
 refine cw_seq ?_
 refine cw_region ?_
 refine sq_r (ry_move rfl) ?_
 refine sq_r (ry_assign rfl) ?_
 refine sq_r (ry_assign rfl) ?_
 refine sq_nil ?_
 refine ex_then ?_
 refine cw_seq ?_
 refine cw_block ?_
 refine cw_loop (X := Nat × Nat × List Rt) (fun zz => [(5, .int .i64 (zz.1 : Nat)), (6, .int .i64 (zz.2.1 : Nat)), (1, .int .i64 (n : Nat)), (2, .pointer (some ⟨b2, 0, none⟩)), (4, .int .i64 20)]) (fun zz => blk b2 (lscells g) 112 :: blk g.b #[g.s.val] T :: own rcells 19 g.s zz.2.2 :: L) (fun zz => zz.2.1 = zz.1 + 20 ∧ zz.1 ≤ n ∧ zz.1 % 20 = 0 ∧ zz.2.2.length = xs.length ∧ Bk rkR xs zz.2.2 20 0 zz.1 ∧ (∀ t, zz.1 ≤ t → zz.2.2[t]? = xs[t]?) ∧ MayAll zz.2.2) (fun zz => n - zz.1) (0, 20, xs) ⟨rfl, Nat.zero_le _, rfl, rfl, fun s _ h => absurd h (Nat.not_lt_zero _), fun _ _ => rfl, hp3⟩ (Sub.cons rfl (Sub.cons rfl (Sub.cons rfl (Sub.cons rfl (Sub.cons rfl (Sub.nil _)))))) (fun w hw => Keep.mem hw) ?_
 rintro ⟨a, b, ys⟩ ⟨hi1, hi2, hi3, hi4, hi5, hi6, hi7⟩
 dsimp only
 simp only at hi1 hi2 hi3 hi4 hi5 hi6 hi7
 refine cw_seq ?_
 refine cw_seq ?_
 refine cw_region ?_
 refine sq_r (ry_move rfl) ?_
 refine sq_r (ry_move rfl) ?_
 refine sq_r (ry_int rfl rfl rfl) ?_
 refine sq_nil ?_
 refine ex_then ?_
 refine cw_cond rfl (fun h0 => ?_) (fun h0 => ?_)
 ·
  try simp only [bz0, bz1, bz2, bz3, bz4, bz5, bz6, bz7, bz8, bz9] at h0
  refine cw_skip ?_
  refine ex_then ?_
  refine cw_block ?_
  refine cw_seq ?_
  refine cw_region ?_
  refine sq_r (ry_whole rfl) ?_
  refine sq_r (ry_move rfl) ?_
  refine sq_r (ry_move rfl) ?_
  refine sq_callC rfl ⟨by omega, by omega, by omega, hi7, fun h => hsw (by omega)⟩ fun x15 hp15 => ?_
  refine sq_nil ?_
  refine ex_then ?_
  refine cw_seq ?_
  refine cw_region ?_
  refine sq_r (ry_move rfl) ?_
  refine sq_r (ry_assign rfl) ?_
  refine sq_nil ?_
  refine ex_then ?_
  refine cw_region ?_
  refine sq_r (ry_move rfl) ?_
  refine sq_r (ry_move rfl) ?_
  refine sq_r (ry_add rfl rfl (by omega)) ?_
  refine sq_r (ry_assign rfl) ?_
  refine sq_nil ?_
  refine ex_block ?_
  obtain ⟨hb1, hb2, hb3⟩ := bk_ins hi4 hi5 hi3 (show a ≤ b by omega) (by omega) hi6 hp15
  exact ex_again (x := (a, b, ys)) (b, b + 20, x15) ⟨rfl, by first | omega | (simp only []; omega), by first | omega | (simp only []; omega), hb1, hb2, hb3, fun x hx => hi7 x ((upto_same hp15 (by first | omega | (simp only []; omega)) (by first | omega | (simp only []; omega))).1 hx)⟩ (by simp only; omega) (Sub.cons rfl (Sub.cons rfl (Sub.cons rfl (Sub.cons rfl (Sub.cons rfl (Sub.nil _)))))) (fun w hw => Keep.mem hw)
 ·
  try simp only [bz0, bz1, bz2, bz3, bz4, bz5, bz6, bz7, bz8, bz9] at h0
  refine cw_exit ?_
  refine ex_pass_exit ?_
  refine ex_pass_exit ?_
  refine ex_block_hit ?_
  refine ex_then ?_
  refine cw_seq ?_
  refine cw_region ?_
  refine sq_r (ry_whole rfl) ?_
  refine sq_r (ry_move rfl) ?_
  refine sq_r (ry_move rfl) ?_
  refine sq_callC rfl ⟨by omega, by omega, by omega, hi7, fun h => hsw (by omega)⟩ fun x23 hp23 => ?_
  refine sq_nil ?_
  refine ex_then ?_
  refine cw_block ?_
  obtain ⟨hb1, hb2, hb3⟩ := bk_ins hi4 hi5 hi3 (show a ≤ n by omega) (by omega) hi6 hp23
  refine cw_loop (X := Nat × List Rt) (fun zz => [(4, .int .i64 (zz.1 : Nat)), (1, .int .i64 (n : Nat)), (2, .pointer (some ⟨b2, 0, none⟩))]) (fun zz => blk b2 (lscells g) 112 :: blk g.b #[g.s.val] T :: own rcells 19 g.s zz.2 :: L) (fun zz => 0 < zz.1 ∧ zz.1 ≤ 2 * n + 20 ∧ zz.2.length = xs.length ∧ Bk rkR xs zz.2 zz.1 0 xs.length ∧ MayAll zz.2) (fun zz => n - zz.1) (20, x23) ⟨by first | omega | (simp only []; omega), by first | omega | (simp only []; omega), hb1, by rw [← hp1]; exact hb2, fun x hx => hi7 x ((upto_same hp23 (by first | omega | (simp only []; omega)) (by first | omega | (simp only []; omega))).1 hx)⟩ (Sub.cons rfl (Sub.cons rfl (Sub.cons rfl (Sub.nil _)))) (fun w hw => Keep.mem hw) ?_
  rintro ⟨c, zs⟩ ⟨hc1, hc2, hc3, hc4, hc5⟩
  dsimp only
  simp only at hc1 hc2 hc3 hc4 hc5
  refine cw_seq ?_
  refine cw_seq ?_
  refine cw_region ?_
  refine sq_r (ry_move rfl) ?_
  refine sq_r (ry_move rfl) ?_
  refine sq_r (ry_int rfl rfl rfl) ?_
  refine sq_nil ?_
  refine ex_then ?_
  refine cw_cond rfl (fun h1 => ?_) (fun h1 => ?_)
  ·
   try simp only [bz0, bz1, bz2, bz3, bz4, bz5, bz6, bz7, bz8, bz9] at h1
   refine cw_skip ?_
   refine ex_then ?_
   refine cw_block ?_
   refine cw_seq ?_
   refine cw_region ?_
   refine sq_r (ry_move rfl) ?_
   refine sq_r (ry_mul rfl rfl (by omega)) ?_
   refine sq_r (ry_assign rfl) ?_
   refine sq_r (ry_assign rfl) ?_
   refine sq_nil ?_
   refine ex_then ?_
   refine cw_seq ?_
   refine cw_block ?_
   refine cw_loop (X := Nat × Nat × List Rt) (fun zz => [(5, .int .i64 (zz.1 : Nat)), (6, .int .i64 (zz.2.1 : Nat)), (1, .int .i64 (n : Nat)), (2, .pointer (some ⟨b2, 0, none⟩)), (4, .int .i64 (c : Nat))]) (fun zz => blk b2 (lscells g) 112 :: blk g.b #[g.s.val] T :: own rcells 19 g.s zz.2.2 :: L) (fun zz => zz.2.1 = zz.1 + 2 * c ∧ zz.1 ≤ n ∧ zz.1 % (2 * c) = 0 ∧ zz.2.2.length = xs.length ∧ Bk rkR xs zz.2.2 (2 * c) 0 zz.1 ∧ Bk rkR xs zz.2.2 c zz.1 xs.length ∧ MayAll zz.2.2) (fun zz => n - zz.1) (0, 2 * c, zs) ⟨by first | omega | (simp only []; omega), Nat.zero_le _, Nat.zero_mod _, hc3, fun s _ h => absurd h (Nat.not_lt_zero _), hc4, hc5⟩ (Sub.cons rfl (Sub.cons rfl (Sub.cons rfl (Sub.cons rfl (Sub.cons rfl (Sub.nil _)))))) (fun w hw => Keep.mem hw) ?_
   rintro ⟨a, b, ys⟩ ⟨hd1, hd2, hd3, hd4, hd5, hd6, hd7⟩
   dsimp only
   simp only at hd1 hd2 hd3 hd4 hd5 hd6 hd7
   refine cw_seq ?_
   refine cw_seq ?_
   refine cw_region ?_
   refine sq_r (ry_move rfl) ?_
   refine sq_r (ry_move rfl) ?_
   refine sq_r (ry_int rfl rfl rfl) ?_
   refine sq_nil ?_
   refine ex_then ?_
   refine cw_cond rfl (fun h2 => ?_) (fun h2 => ?_)
   ·
    try simp only [bz0, bz1, bz2, bz3, bz4, bz5, bz6, bz7, bz8, bz9] at h2
    refine cw_skip ?_
    refine ex_then ?_
    refine cw_block ?_
    refine cw_seq ?_
    refine cw_region ?_
    refine sq_r (ry_whole rfl) ?_
    refine sq_r (ry_move rfl) ?_
    refine sq_r (ry_move rfl) ?_
    refine sq_r (ry_move rfl) ?_
    refine sq_r (Ry.to (v' := .int .i64 ((a + c : Nat) : Int)) (ry_add rfl rfl (by omega)) (by congr 1 <;> omega)) ?_
    refine sq_r (ry_move rfl) ?_
    refine sq_callC rfl ⟨by omega, by omega, by omega, by omega, hd7, (bk_srt hd4 hd6 (mod_half hd3) (show a + c < xs.length by omega) (show b = min (a + c + c) xs.length by omega)).1, (bk_srt hd4 hd6 (mod_half hd3) (show a + c < xs.length by omega) (show b = min (a + c + c) xs.length by omega)).2, fun h => hsw (by omega)⟩ fun x38 hp38 => ?_
    refine sq_nil ?_
    refine ex_then ?_
    refine cw_seq ?_
    refine cw_region ?_
    refine sq_r (ry_move rfl) ?_
    refine sq_r (ry_assign rfl) ?_
    refine sq_nil ?_
    refine ex_then ?_
    refine cw_region ?_
    refine sq_r (ry_move rfl) ?_
    refine sq_r (ry_move rfl) ?_
    refine sq_r (ry_mul rfl rfl (by omega)) ?_
    refine sq_r (ry_add rfl rfl (by omega)) ?_
    refine sq_r (ry_assign rfl) ?_
    refine sq_nil ?_
    refine ex_block ?_
    obtain ⟨hb1, hb2, hb3⟩ := bk_merge hd4 hd5 hd6 hd3 hc1 (by omega) (by omega) hp38
    exact ex_again (x := (a, b, ys)) (b, b + 2 * c, x38) ⟨rfl, by first | omega | (simp only []; omega), by rw [hd1, Nat.add_mod_right]; exact hd3, hb1, hb2, hb3, fun x hx => hd7 x ((upto_same hp38 (by first | omega | (simp only []; omega)) (by first | omega | (simp only []; omega))).1 hx)⟩ (by simp only; omega) (Sub.cons rfl (Sub.cons rfl (Sub.cons rfl (Sub.cons rfl (Sub.cons rfl (Sub.nil _)))))) (fun w hw => Keep.mem hw)
   ·
    try simp only [bz0, bz1, bz2, bz3, bz4, bz5, bz6, bz7, bz8, bz9] at h2
    refine cw_exit ?_
    refine ex_pass_exit ?_
    refine ex_pass_exit ?_
    refine ex_block_hit ?_
    refine ex_then ?_
    refine cw_seq ?_
    refine cw_seq ?_
    refine cw_region ?_
    refine sq_r (ry_move rfl) ?_
    refine sq_r (ry_move rfl) ?_
    refine sq_r (Ry.to (v' := .int .i64 ((a + c : Nat) : Int)) (ry_add rfl rfl (by omega)) (by congr 1 <;> omega)) ?_
    refine sq_r (ry_assign rfl) ?_
    refine sq_nil ?_
    refine ex_then ?_
    refine cw_seq ?_
    refine cw_region ?_
    refine sq_r (ry_move rfl) ?_
    refine sq_r (ry_move rfl) ?_
    refine sq_r (ry_int rfl rfl rfl) ?_
    refine sq_nil ?_
    refine ex_then ?_
    refine cw_cond rfl (fun h3 => ?_) (fun h3 => ?_)
    ·
     try simp only [bz0, bz1, bz2, bz3, bz4, bz5, bz6, bz7, bz8, bz9] at h3
     refine cw_region ?_
     refine sq_r (ry_whole rfl) ?_
     refine sq_r (ry_move rfl) ?_
     refine sq_r (ry_move rfl) ?_
     refine sq_r (ry_move rfl) ?_
     refine sq_callC rfl ⟨by omega, by omega, by omega, by omega, hd7, (bk_srt hd4 hd6 (mod_half hd3) (show a + c < xs.length by omega) (show n = min (a + c + c) xs.length by omega)).1, (bk_srt hd4 hd6 (mod_half hd3) (show a + c < xs.length by omega) (show n = min (a + c + c) xs.length by omega)).2, fun h => hsw (by omega)⟩ fun x54 hp54 => ?_
     refine sq_nil ?_
     refine ex_then ?_
     refine cw_region ?_
     refine sq_r (ry_move rfl) ?_
     refine sq_r (ry_mul rfl rfl (by omega)) ?_
     refine sq_r (ry_assign rfl) ?_
     refine sq_nil ?_
     refine ex_block ?_
     obtain ⟨hb1, hb2, hb3⟩ := bk_merge hd4 hd5 hd6 hd3 hc1 (by omega) (by omega) hp54
     exact ex_again (x := (c, zs)) (c * 2, x54) ⟨by first | omega | (simp only []; omega), by first | omega | (simp only []; omega), hb1, by rw [Nat.mul_comm c 2, ← hp1]; exact hb2, fun x hx => hd7 x ((upto_same hp54 (by first | omega | (simp only []; omega)) (by first | omega | (simp only []; omega))).1 hx)⟩ (by simp only; omega) (Sub.cons rfl (Sub.cons rfl (Sub.cons rfl (Sub.nil _)))) (fun w hw => Keep.mem hw)
    ·
     try simp only [bz0, bz1, bz2, bz3, bz4, bz5, bz6, bz7, bz8, bz9] at h3
     refine cw_skip ?_
     refine ex_then ?_
     refine cw_region ?_
     refine sq_r (ry_move rfl) ?_
     refine sq_r (ry_mul rfl rfl (by omega)) ?_
     refine sq_r (ry_assign rfl) ?_
     refine sq_nil ?_
     refine ex_block ?_
     exact ex_again (x := (c, zs)) (c * 2, ys) ⟨by first | omega | (simp only []; omega), by first | omega | (simp only []; omega), hd4, by rw [Nat.mul_comm c 2]; exact bk_last hd5 hd6 hd3 (by first | omega | (simp only []; omega)), hd7⟩ (by simp only; omega) (Sub.cons rfl (Sub.cons rfl (Sub.cons rfl (Sub.nil _)))) (fun w hw => Keep.mem hw)
  ·
   try simp only [bz0, bz1, bz2, bz3, bz4, bz5, bz6, bz7, bz8, bz9] at h1
   refine cw_exit ?_
   refine ex_pass_exit ?_
   refine ex_pass_exit ?_
   refine ex_block_hit ?_
   refine ex_ret (.inr rfl) (res_none rfl) (fun w1 hw => ?_)
   exact ⟨zs, rfl, by rw [hp1]; exact bk_done hc3 hc4 (by omega), Keep.mem hw⟩
instance stable_i {w0 : World} {L R1 L2 : List Ent} {i j : Nat} {xs : List Rt} {T : TypeId} {g : Lsw} {n : Nat} [h : Has L g.b #[g.s.val] T i] [d1 : DelI L i R1] [q : Owns R1 g.s rcells 19 xs j] [d2 : DelI R1 j L2] : FnC Try.prog 78 w0 L [.agg (lscells g), .int .i64 (n : Nat)] (List Rt) (fun zz => .tuple #[]) (fun zz => blk g.b #[g.s.val] T :: own rcells 19 g.s zz :: L2) (fun zz => Upto rkR xs 0 n zz) (n = xs.length ∧ xs.length ≤ 1000000 ∧ MayAll xs ∧ Swaps g xs.length) := ⟨fun hp w hw => stable_c w0 w L2 xs T g n (mem_two h.h d1.h q.h d2.h hw) hp⟩

end Go.Proofs.Ytldkgicmfbofiaa

/- sort.SliceStable of routes: walked. -/
namespace Go.Proofs.Ytldkgicmfbofiaa
open Go.Eng Go.Kb
noncomputable def natf76 : Func := Option.get (Try.prog.funcs[76]?) (by kernel_rfl)
theorem nat76_is : Try.prog.funcs[76]? = some natf76 := by kernel_rfl
theorem nat76_nm : (natf76.name == "runtime.NumGoroutine") = false := by kernel_rfl
theorem nat76_bd : natf76.body.isNone = true := by kernel_rfl
theorem nat76_nx : Extern.findNext natf76 = none := by kernel_rfl
theorem nat76_en : Extern.find natf76 = some (fun args => Extern.ReflectliteValue.unpack (args.getD 0 (.tuple #[]))) := by kernel_rfl
noncomputable def natf77 : Func := Option.get (Try.prog.funcs[77]?) (by kernel_rfl)
theorem nat77_is : Try.prog.funcs[77]? = some natf77 := by kernel_rfl
theorem nat77_nm : (natf77.name == "runtime.NumGoroutine") = false := by kernel_rfl
theorem nat77_bd : natf77.body.isNone = true := by kernel_rfl
theorem nat77_nx : Extern.findNext natf77 = none := by kernel_rfl
theorem nat77_en : Extern.find natf77 = some (Extern.ReflectliteSwapper.swapper "internal/reflectlite" (Extern.ReflectliteValue.valueError "Swapper")) := by kernel_rfl
noncomputable def natf79 : Func := Option.get (Try.prog.funcs[79]?) (by kernel_rfl)
theorem nat79_is : Try.prog.funcs[79]? = some natf79 := by kernel_rfl
theorem nat79_nm : (natf79.name == "runtime.NumGoroutine") = false := by kernel_rfl
theorem nat79_bd : natf79.body.isNone = true := by kernel_rfl
theorem nat79_nx : Extern.findNext natf79 = none := by kernel_rfl
theorem nat79_en : Extern.find natf79 = some (Extern.ReflectliteValue.method (Extern.ReflectliteValue.valueError "reflectlite.Value.Len" 0) Extern.ReflectliteValue.len) := by kernel_rfl
noncomputable def rsT : TypeInfo := (Try.prog.info? 22).get (by kernel_rfl)
noncomputable def rsE : TypeInfo := (Try.prog.info? 34).get (by kernel_rfl)
theorem rsK (n : Nat) (h2 : 2 ≤ n) : Lib.swapperK n rsE 25 = 9 := by
 have a : rsE.hasPointers = false := by kernel_rfl
 have b : rsE.bytes = 40 := by kernel_rfl
 have c : (n == 0) = false := by simp; omega
 have d : (n == 1) = false := by simp; omega
 simp [Lib.swapperK, a, b, c, d]
theorem rsT_is : Try.prog.info? 22 = some rsT := by kernel_rfl
theorem rsT_d : rsT.desc = .slice 34 := by kernel_rfl
theorem rsE_is : Try.prog.info? 34 = some rsE := by kernel_rfl
theorem rsE_k (w : World) : (Extern.Rtype.kind 34).run Try.prog w = .ok 25 w := by kernel_rfl
theorem rsK0 : ∃ f, Try.prog.funcs.findIdx? (·.name == "internal/reflectlite" ++ ".Swapper$" ++ toString (Lib.swapperK 0 rsE 25)) = some f := ⟨(Try.prog.funcs.findIdx? (·.name == "internal/reflectlite" ++ ".Swapper$" ++ toString (Lib.swapperK 0 rsE 25))).get (by kernel_rfl), by kernel_rfl⟩
theorem rsK1 : ∃ f, Try.prog.funcs.findIdx? (·.name == "internal/reflectlite" ++ ".Swapper$" ++ toString (Lib.swapperK 1 rsE 25)) = some f := ⟨(Try.prog.funcs.findIdx? (·.name == "internal/reflectlite" ++ ".Swapper$" ++ toString (Lib.swapperK 1 rsE 25))).get (by kernel_rfl), by kernel_rfl⟩
theorem rsK9 : Try.prog.funcs.findIdx? (·.name == "internal/reflectlite" ++ ".Swapper$" ++ toString 9) = some 96 := by kernel_rfl
theorem rsPk : Try.prog.packed 22 = false := by kernel_rfl
@[reducible] noncomputable def rvcells (b : Nat) : Array Value := #[typeHandle Try.prog 22, .pointer (some ⟨b, 0, none⟩), .int .u64 151]
def zrv : Array Value := #[.pointer none, .pointer none, .int .u64 0]
instance (b : Nat) : SizeIs (rvcells b) 3 := ⟨rfl, by simp [rvcells, typeHandle, Value.oneCell']⟩
instance : SizeIs zrv 3 := ⟨rfl, by simp [zrv, Value.oneCell']⟩
instance : ZeroT Try.prog 106 (.agg zrv) := ⟨by kernel_rfl⟩
instance (k : FuncId) (c : Array Value) (b : Nat) : BuildT Try.prog 112 [(0, LF b), (1, .func (.func k) #[] c)] (.agg #[LF b, .func (.func k) #[] c]) := ⟨fun w => by kernel_rfl⟩
set_option maxRecDepth 20000 in
theorem sstable_c (w0 w : World) (L : List Ent) (b : Nat) (s : Sv) (xs : List Rt) (T : TypeId)  (hw : Mem w0 (blk b #[s.val] T :: own rcells 19 s xs :: L) w) (hpre : xs.length ≤ 1000000 ∧ MayAll xs) : Calls Try.prog 52 #[.iface 22 s.val, LF b] w fun e w' => ∃ zz : List Rt, e = .returned (.tuple #[]) ∧ (Stb rkR xs zz) ∧ Mem w0 (blk b #[s.val] T :: own rcells 19 s zz :: L) w' := by
 obtain ⟨hp1, hp2⟩ := hpre
 refine calls_in (args := [_, _]) Try.func52 rfl Try.ntmps52 rfl hw ?_
 change Cw _ _ _ _ _ [(0, .iface 22 s.val), (1, LF b)] (blk b #[s.val] T :: own rcells 19 s xs :: L)
 refine cw_seq ?_
 refine cw_region ?_
 refine sq_r (ry_move rfl) ?_
 refine sq_valueOf (s := s) nat76_is nat76_nm nat76_bd nat76_nx nat76_en rsT_is rsT_d rfl fun b7 => ?_
 refine sq_allocA fun b4 => ?_
 refine sq_storeW rfl rfl ?_
 refine sq_nil ?_
 refine ex_then ?_
 refine cw_seq ?_
 refine cw_region ?_
 refine sq_r (ry_move rfl) ?_
 refine sq_swapper (s := s) nat77_is nat77_nm nat77_bd nat77_nx nat77_en rsT_is rsT_d rsE_is rsE_k rsK0 rsK1 rsK rsK9 rfl fun k9 c9 hsw => ?_
 refine sq_r (ry_assign rfl) ?_
 refine sq_nil ?_
 refine ex_then ?_
 refine cw_region ?_
 refine sq_r (ry_move rfl) ?_
 refine sq_r (ry_move rfl) ?_
 refine sq_r (Ry.to (v' := .agg (lscells (⟨b, s, k9, c9⟩ : Lsw))) (ry_buildc rfl) rfl) ?_
 refine sq_r (ry_whole rfl) ?_
 refine sq_valueLen (s := s) (b := b7) nat79_is nat79_nm nat79_bd nat79_nx nat79_en rsT_is rsT_d rsPk rfl ?_
 refine sq_callC rfl ⟨rfl, hp1, hp2, hsw⟩ fun x15 hp15 => ?_
 refine sq_nil ?_
 refine ex_ret (.inr rfl) (res_none rfl) (fun w1 hw => ?_)
 exact ⟨x15, rfl, upto_stb hp15, Keep.mem hw⟩
instance sstable_i {w0 : World} {L R1 L2 : List Ent} {i j : Nat} {b : Nat} {s : Sv} {xs : List Rt} {T : TypeId}  [h : Has L b #[s.val] T i] [d1 : DelI L i R1] [q : Owns R1 s rcells 19 xs j] [d2 : DelI R1 j L2] : FnC Try.prog 52 w0 L [.iface 22 s.val, LF b] (List Rt) (fun zz => .tuple #[]) (fun zz => blk b #[s.val] T :: own rcells 19 s zz :: L2) (fun zz => Stb rkR xs zz) (xs.length ≤ 1000000 ∧ MayAll xs) := ⟨fun hp w hw => sstable_c w0 w L2 b s xs T  (mem_two h.h d1.h q.h d2.h hw) hp⟩

end Go.Proofs.Ytldkgicmfbofiaa

