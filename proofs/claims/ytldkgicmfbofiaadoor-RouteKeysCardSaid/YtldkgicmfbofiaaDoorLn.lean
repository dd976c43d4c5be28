/- Steps that make or write memory, and the line of a region that draws its order. -/
import Derived.Test.YtldkgicmfbofiaaDoorDp
import Derived.Test.YtldkgicmfbofiaaDoorLin
set_option linter.unusedSimpArgs false
set_option linter.unusedVariables false
namespace Go.Eng
open Go.RowKit
section
variable {P : Program} {N : Fra} {w0 : World} {env : Env} {L R R1 R2 : List Ent} {Q : Exit → Act → World → Prop} {d : Option Tmp} {ty : TypeId} {ps : String} {af : Array Edge} {gd : Option (Nat × Bool)} {K : Value → List Ent → Prop}
/-- A step: what it yields and leaves, told to K. -/
def Stp (P : Program) (N : Fra) (w0 : World) (env : Env) (L : List Ent) (o : Oper) (K : Value → List Ent → Prop) : Prop :=
  ∀ a w, Rep N env a → Mem w0 L w → upon P w (fun v w' => ∃ L', Mem w0 L' w' ∧ K v L') ((execOp a.eval o).run P w)
theorem st_run {o : Oper} (h : ∀ a w, Rep N env a → Mem w0 L w → ∃ v w' L', (execOp a.eval o).run P w = .ok (.value v) w' ∧ Mem w0 L' w' ∧ K v L') : Stp P N w0 env L o K := fun a w ha hw => by
  obtain ⟨v, w', L', h1, h2, h3⟩ := h a w ha hw
  rw [h1]; exact ⟨L', h2, h3⟩
theorem st_skip {o : Oper} (h : ∀ a w, Rep N env a → Mem w0 L w → ∃ w' L', (execOp a.eval o).run P w = .ok .skip w' ∧ Mem w0 L' w' ∧ K undef L') : Stp P N w0 env L o K := fun a w ha hw => by
  obtain ⟨w', L', h1, h2, h3⟩ := h a w ha hw
  rw [h1]; exact ⟨L', h2, h3⟩
theorem upon_mono {w : World} {R R' : Value → World → Prop} (h : ∀ v w, R v w → R' v w) {r : Result Next} (hr : upon P w R r) : upon P w R' r := by
  unfold upon at hr ⊢
  split at hr
  · exact h _ _ hr
  · exact h _ _ hr
  · exact ⟨hr.1, hr.2.mono fun e w'' ⟨v, he, hv⟩ => ⟨v, he, h _ _ hv⟩⟩
  · exact hr.elim
theorem st_mono {o : Oper} {K' : Value → List Ent → Prop} (h : Stp P N w0 env L o K') (hk : ∀ v L', K' v L' → ∃ L'', (∀ w, Mem w0 L' w → Mem w0 L'' w) ∧ K v L'') : Stp P N w0 env L o K := fun a w ha hw =>
  upon_mono (fun v _ ⟨L', h1, h2⟩ => by obtain ⟨L'', h3, h4⟩ := hk v L' h2; exact ⟨L'', h3 _ h1, h4⟩) (h a w ha hw)
theorem st_mem {o : Oper} (L' : List Ent) (h : ∀ w, Mem w0 L w → Mem w0 L' w) (hk : Stp P N w0 env L' o K) : Stp P N w0 env L o K := fun a w ha hw => hk a w ha (h w hw)
/-- What only reads is a step, too. -/
theorem st_r {o : Oper} {v : Value} (h : Ry P N w0 env L o v) (hk : K v L) : Stp P N w0 env L o K := st_run fun a w ha hw => ⟨v, w, L, h a w ha hw, hw, hk⟩
theorem st_callC {X : Type} {val : X → Value} {L' : X → List Ent} {pr : X → Prop} {pre : Prop} {f : FuncId} {xs : List Operand} {ts : Array TypeId} {vs : List Value} [hf : IsFn P f] (hx : evl env xs = some vs)
    [hc : FnC P f w0 L vs X val L' pr pre] (hp : pre) (hk : ∀ x, pr x → K (val x) (L' x)) :
    Stp P N w0 env L ⟨d, .call { callee := .value (.func f), args := xs.toArray, argTypes := ts }, ty, ps, af, gd⟩ K := fun a w ha hw => by
  rw [run_call hf w rfl, ha.evl hx]
  exact ⟨rfl, (hc.h hp w hw).mono fun e w' ⟨x, he, hpx, hm⟩ => ⟨val x, he, L' x, hm, hk x hpx⟩⟩
section
variable {α : Type} {enc : α → Array Value} {c : Nat} {s : Sv} {xs ys : List α}
theorem st_box {t : TypeId} {x : Operand} {v : Value} (hx : ev env x = some v) (hk : ∀ b, K ((.pointer (some ⟨b, 0, none⟩))) ((blk b v.cells t :: L))) :
    Stp P N w0 env L ⟨d, .box t x, ty, ps, af, none⟩ K :=
  st_run fun a w ha hw => ⟨_, _, _, by simp only [execOp, ha.ev hx, Instr.box, newVar, newRow, Sem.run_bind, newObj, Sem.run, Result.andThen, Sem.run_pure]; rfl, hw.alloc v.cells t, hk _⟩
theorem st_alloc {t : TypeId} {z : Value} [hz : ZeroT P t z] (hk : ∀ b, K ((.pointer (some ⟨b, 0, none⟩))) ((blk b z.cells t :: L))) :
    Stp P N w0 env L ⟨d, .alloc t, ty, ps, af, none⟩ K :=
  st_run fun a w ha hw => ⟨_, _, _, by simp only [execOp, Instr.alloc, newVar, newRow, Sem.run_bind, run_zeroValue' w hz, newObj, Sem.run, Result.andThen, Sem.run_pure]; rfl, hw.alloc z.cells t, hk _⟩
theorem st_boxA {t : TypeId} {x : Operand} {cs : Array Value} (hx : ev env x = some (.agg cs)) (hk : ∀ b, K ((.pointer (some ⟨b, 0, none⟩))) ((blk b cs t :: L))) :
    Stp P N w0 env L ⟨d, .box t x, ty, ps, af, none⟩ K := st_box hx hk
theorem st_allocA {t : TypeId} {cs : Array Value} [hz : ZeroT P t (.agg cs)] (hk : ∀ b, K ((.pointer (some ⟨b, 0, none⟩))) ((blk b cs t :: L))) :
    Stp P N w0 env L ⟨d, .alloc t, ty, ps, af, none⟩ K := st_alloc (z := .agg cs) hk
theorem st_store {t : TypeId} {x y : Operand} {i b o : Nat} {cs : Array Value} {T : TypeId} {v : Value} (hx : ev env x = some (.pointer (some ⟨b, o, none⟩))) (hy : ev env y = some v) [ht : OneT P t] [hh : Has L b cs T i] (ho : o < cs.size) (hv : v.oneCell' = true) {cs' : Array Value} {L' : List Ent} (hcs : cs.setIfInBounds o v = cs') [hu : Upd L i (blk b cs' T) L'] (hk : K undef (L')) :
    Stp P N w0 env L ⟨none, .store t x y, ty, ps, af, none⟩ K :=
  st_skip fun a w ha hw => by
    have hi := hh.h
    have hb := hw.block hi
    have hc : w.cell? ⟨b, o, none⟩ = some cs[o] := by rw [hw.cell hi]; simp [ho]
    have hf : w.frozen? ⟨b, o, none⟩ = false := frozen_of_row w b o cs T hb
    subst hcs
    refine ⟨w.setCell ⟨b, o, none⟩ v, _, ?_, ?_, hk⟩
    · have h1 : (storeCells ⟨b, o, none⟩ [v]).run P w = .ok () (w.setCell ⟨b, o, none⟩ v) := by
        have := run_storeCells_at (P := P) b o T [v] 0 cs w hb (by simp; omega) (by simpa using hv)
        rw [this, setCell_eq_setRow w b o cs T (0, 0) v hb]
        congr 2
        apply Array.ext'
        simp [List.set_eq_take_append_cons_drop, ho]
      have hcs : v.cells = #[v] := by cases v <;> simp_all [Value.oneCell', Value.cells]
      simp only [execOp, ha.ev hx, ha.ev hy, Instr.storeAt, Instr.sureAddr, storeVar, Sem.run_bind, Sem.run_pure, Result.andThen, run_sizeOf' w ht.size, hcs]
      simp [h1]
    · rw [setCell_eq_setRow w b o cs T (0, 0) v hb]
      rw [← hu.h]
      exact hw.setRow hi _
theorem st_storeN {t : TypeId} {x y : Operand} {i b o n : Nat} {cs vs : Array Value} {T : TypeId} (hx : ev env x = some (.pointer (some ⟨b, o, none⟩))) (hy : ev env y = some (.agg vs)) [ht : RowT P t n] [hh : Has L b cs T i] [hs : SizeIs vs n] (ho : o + n ≤ cs.size) {cs' : Array Value} {L' : List Ent} (hcs : over cs o vs = cs') [hu : Upd L i (blk b cs' T) L'] (hk : K undef (L')) :
    Stp P N w0 env L ⟨none, .store t x y, ty, ps, af, none⟩ K :=
  st_skip fun a w ha hw => by
    have hi := hh.h
    have hn := hs.h
    have hv := hs.one
    have hb := hw.block hi
    subst hcs
    refine ⟨_, _, ?_, by rw [← hu.h]; exact hw.setRow hi _, hk⟩
    have h1 := run_storeCells_at (P := P) b o T vs.toList 0 cs w hb (by simp; omega) (fun v hv' => (Array.all_eq_true_iff_forall_mem.1 hv) v (by simpa using hv'))
    simp only [execOp, ha.ev hx, ha.ev hy, Instr.storeAt, Instr.sureAddr, storeVar, Value.cells, Sem.run_bind, Sem.run_pure, Result.andThen, run_sizeOf' w ht.size, hn]
    simp [h1, over]
theorem st_storeW {t : TypeId} {x y : Operand} {i b n : Nat} {cs vs : Array Value} {T : TypeId} (hx : ev env x = some (.pointer (some ⟨b, 0, none⟩))) (hy : ev env y = some (.agg vs)) [ht : RowT P t n] [hh : Has L b cs T i] [hs : SizeIs vs n] [hc : SizeIs cs n] {L' : List Ent} [hu : Upd L i (blk b vs T) L'] (hk : K undef (L')) :
    Stp P N w0 env L ⟨none, .store t x y, ty, ps, af, none⟩ K := by
  have hn := hs.h
  have hc' := hc.h
  refine st_storeN hx hy (by omega) (?_ : over cs 0 vs = vs) hk
  apply Array.ext'
  simp [over]; omega
theorem st_copy {x y : Operand} {tx tys e : TypeId} {i b o dl dc sl sc : Nat} {a : Addr} {cs vs : Array Value} {T : TypeId} (hx : ev env x = some (.slice (some ⟨b, o, none⟩) dl dc)) (hy : ev env y = some (.slice (some a) sl sc))
    [ht : SliceT P tx e 1] [hh : Has L b cs T i] (hn : vs.size = Nat.min sl dl) (hsrc : ∀ w, Mem w0 L w → ∀ j, j < vs.size → w.cell? (a.add j) = vs[j]?) (hv : vs.all (·.oneCell') = true) (ho : o + vs.size ≤ cs.size)
    {cs' : Array Value} {L' : List Ent} (hcs : over cs o vs = cs') [hu : Upd L i (blk b cs' T) L'] (hk : K ((.int .i64 vs.size)) (L')) :
    Stp P N w0 env L ⟨d, .call { callee := .builtin .copy, args := #[x, y], argTypes := #[tx, tys] }, ty, ps, af, none⟩ K :=
  st_run fun aa w ha hw => by
    have hi := hh.h
    have hb := hw.block hi
    subst hcs
    have hrun := run_copy_row (P := P) w tx tys ty e b o dl dc a sl sc cs T vs.toList ht.und ht.size hb (by simpa using hn)
      (fun j v hv' => by
        have hj : j < vs.size := by simpa using (List.getElem?_eq_some_iff.1 hv').1
        rw [hsrc w hw j hj]; simpa using hv') (by simpa using ho) (fun v hv' => (Array.all_eq_true_iff_forall_mem.1 hv) v (by simpa using hv'))
    refine ⟨_, w.setRow b (over cs o vs), _, ?_, by rw [← hu.h]; exact hw.setRow hi _, hk⟩
    simp [execOp, ha.ev hx, ha.ev hy, resolve, invoke, builtin, hrun, Result.andThen, goInt, over]
theorem st_append {t tx e : TypeId} {x y : Operand} {yv : Value} {by' i : Nat} [ht : SlT P t e c by'] [he : Enc enc c] (hx : ev env x = some s.val) (hy : ev env y = some yv) [q : Owns L s enc c xs i] (hc : 0 < c)
    (hs : ∀ w, Mem w0 L w → Src P c tx yv ys.length (flatR enc ys) w) (hb : (xs.length + ys.length) * by' ≤ 140737488355328) (h63 : xs.length + ys.length ≤ 140737488355328) {L' : Sv → List Ent} [hu : ∀ s', Upd L i (own enc c s' (xs ++ ys)) (L' s')]
    (hk : ∀ s' : Sv, s'.Ok → s'.len = (xs ++ ys).length → K (s'.val) ((L' s'))) :
    Stp P N w0 env L ⟨d, .call { callee := .builtin .append, args := #[x, y], argTypes := #[t, tx] }, ty, ps, af, none⟩ K :=
  st_run fun a w ha hw => by
    obtain ⟨s', w', h1, h2, h3, h4⟩ := append_own (ty := ty) ht hc hw q.h (hs w hw) hb h63
    refine ⟨s'.val, w', L' s', ?_, by rw [← (hu s').h]; exact h4, hk s' h2 h3⟩
    simp [execOp, ha.ev hx, ha.ev hy, resolve, invoke, builtin, h1, Result.andThen]
theorem st_buildSlice {t e : TypeId} {by' n : Nat} [ht : SlT P t e c by'] [he : Enc enc c] {ops : List (Nat × Operand)} {vals : List Value} (xs : List α) (hx : evp env ops = some (idx vals 0)) (hv : vals.map Value.cells = xs.map enc) (hn : xs.length = n) (hc : 0 < n * c) (h24 : n * c ≤ 16777216)
    (hk : ∀ b, K ((Sv.val ⟨false, b, 0, n, n, none⟩)) ((own enc c ⟨false, b, 0, n, n, none⟩ xs :: L))) :
    Stp P N w0 env L ⟨d, .buildSlice t n ops.toArray, ty, ps, af, none⟩ K :=
  st_run fun a w ha hw => by
    subst hn
    have e1 : (ops.toArray.map fun (p : Nat × Operand) => match p with | (i, x) => (i, a.eval x)) = (idx vals 0).toArray := by
      rw [← ha.evp hx]; simp
    refine ⟨_, _, _, ?_, hw.call (mem_new (enc := enc) (c := c) (xs := xs) (cs := (flatR enc xs).toArray) (e := e) rfl xs.length xs.length rfl (Nat.le_refl _) (len24 hc h24) (by simp [flatR_length]) fun i x hx j hj => by rw [← flatR_get (enc := enc) xs i x hx j hj]; simp), hk _⟩
    simp only [execOp, e1, Sem.run_bind, run_buildSlice ht hv hc h24 w, Result.andThen, Sem.run_pure]; rfl
theorem st_makeS {t e : TypeId} {by' n cap : Nat} {z : Value} {x y : Operand} {k k' : IntKind} {ix iy : Int} [ht : SlT P t e c by'] [hz : ZeroT P e z] (x0 : α) (h0 : enc x0 = z.cells) (hx : ev env x = some (.int k ix)) (hy : ev env y = some (.int k' iy)) (ex : ix = (n : Int)) (ey : iy = (cap : Int)) (hle : n ≤ cap) (hb : by' * cap ≤ 281474976710656) (h63 : cap ≤ 140737488355328)
    (hk : ∀ b, K ((Sv.val ⟨false, b, 0, n, cap, none⟩)) ((own enc c ⟨false, b, 0, n, cap, none⟩ (List.replicate n x0) :: L))) :
    Stp P N w0 env L ⟨d, .makeSlice t x y, ty, ps, af, none⟩ K :=
  st_run fun a w ha hw => by
    subst ex ey
    obtain ⟨w', h1, h2⟩ := run_makeS ht hz (k := k) (k' := k') (n := n) x0 h0 hle hb h63 w
    exact ⟨_, w', _, by simp only [execOp, ha.ev hx, ha.ev hy, Sem.run_bind, h1, Result.andThen, Sem.run_pure], hw.call h2, hk _⟩
theorem st_storeS {t : TypeId} {x y : Operand} {i k j n p : Nat} {a a' : α} {v : Value} (sz : (P.info? t).map (·.size) = some n) [he : Enc enc c] (hx : ev env x = some (.pointer (some ⟨s.b, p, none⟩))) (hy : ev env y = some v) [q : Owns L s enc c xs i] (hp' : p = s.o + k * c + j)
    (ha : xs[k]? = some a) (hv : v.cells.all (·.oneCell') = true) (hn : v.cells.size = n) (hj : j + n ≤ c) (he' : over (enc a) j v.cells = enc a') {L' : List Ent} [hu : Upd L i (own enc c s (xs.set k a')) L'] (hk : K undef (L')) :
    Stp P N w0 env L ⟨none, .store t x y, ty, ps, af, none⟩ K :=
  st_skip fun aa w haa hw => by
    subst hp' hn
    obtain ⟨w', h1, h2⟩ := mem_store (P := P) hw q ha hv hj he' hu
    refine ⟨w', _, ?_, h2, hk⟩
    simp only [execOp, haa.ev hx, haa.ev hy, Instr.storeAt, Instr.sureAddr, storeVar, Sem.run_bind, Sem.run_pure, Result.andThen, run_sizeOf' w sz]
    simp [h1]
theorem st_strb {s t e : TypeId} {x : Operand} {xs : List UInt8} (hs : P.underlying s = some .string) (hd : P.underlying t = some (.slice e)) (he : P.underlying e = some (.int .u8)) (hx : ev env x = some (.string ⟨xs.toArray⟩)) (hl : xs.length ≤ 140737488355328)
    (hk : ∀ sv, K ((Sv.val sv)) ((own benc 1 sv xs :: L))) :
    Stp P N w0 env L ⟨d, .convert s t x, ty, ps, af, none⟩ K :=
  st_run fun a w ha hw => by
    obtain ⟨sv, w', h1, h2⟩ := run_strb hs hd he xs hl w
    exact ⟨_, w', _, by simp only [execOp, ha.ev hx, Sem.run_bind, h1, Result.andThen, Sem.run_pure], hw.call h2, hk sv⟩
theorem st_build0 {t e : TypeId} {by' : Nat} (enc : α → Array Value) [ht : SlT P t e c by'] [he : Enc enc c] (hk : ∀ b, K ((Sv.val ⟨false, b, 0, 0, 0, none⟩)) ((own enc c ⟨false, b, 0, 0, 0, none⟩ [] :: L))) :
    Stp P N w0 env L ⟨d, .buildSlice t 0 #[], ty, ps, af, none⟩ K :=
  st_run fun a w _ hw => by
    refine ⟨_, _, _, ?_, hw.call (mem_new (enc := enc) (c := c) (xs := []) (cs := #[]) (e := e) rfl 0 0 rfl (Nat.le_refl _) (Nat.zero_le _) (by simp) (by simp)), hk _⟩
    simp only [execOp, Sem.run_bind, List.map_toArray, List.map_nil, run_build0 ht w, Result.andThen, Sem.run_pure]; rfl
theorem st_appendG {α : Type} {enc : α → Array Value} {c : Nat} {s : Sv} {xs ys : List α} {t tx e : TypeId} {x y : Operand} {yv : Value} {by' : Nat} [ht : SlT P t e c by'] [he : Enc enc c] (R : List Ent) (hx : ev env x = some s.val) (hy : ev env y = some yv)
    (ho : ∀ w, Mem w0 L w → Mem w0 (own enc c s xs :: R) w) (hc : 0 < c) (hs : ∀ w, Mem w0 L w → Src P c tx yv ys.length (flatR enc ys) w) (hb : (xs.length + ys.length) * by' ≤ 140737488355328) (h63 : xs.length + ys.length ≤ 140737488355328)
    (hk : ∀ s' : Sv, K (s'.val) ((own enc c s' (xs ++ ys) :: R))) :
    Stp P N w0 env L ⟨d, .call { callee := .builtin .append, args := #[x, y], argTypes := #[t, tx] }, ty, ps, af, none⟩ K :=
  st_run fun a w ha hw => by
    obtain ⟨s', w', h1, h2, h3, h4⟩ := append_own (i := 0) (ty := ty) ht hc (ho w hw) rfl (hs w hw) hb h63
    refine ⟨s'.val, w', _, ?_, by simpa using h4, hk s'⟩
    simp [execOp, ha.ev hx, ha.ev hy, resolve, invoke, builtin, h1, Result.andThen]
theorem st_storeSv {P : Program} {N : Fra} {w0 : World} {env : Env} {L : List Ent} {ty : TypeId} {ps : String} {af : Array Edge} {τ : Type} {t : TypeId} {x y : Operand} {i k p : Nat} {s : Sv} {xs : List (Sl τ)} {a : Sl τ} (a' : Sl τ)
    (sz : (P.info? t).map (·.size) = some 1) (hx : ev env x = some (.pointer (some ⟨s.b, p, none⟩))) (hy : ev env y = some a'.sv.val) [q : Owns L s (scells (τ := τ)) 1 xs i] (hp' : p = s.o + k * 1) (ha : xs[k]? = some a) {L' : List Ent} [hu : Upd L i (own scells 1 s (xs.set k a')) L'] (hk : K undef (L')) :
    Stp P N w0 env L ⟨none, .store t x y, ty, ps, af, none⟩ K :=
  st_storeS (j := 0) (a' := a') sz hx hy (q := q) hp' ha (by rw [Sv.cells_val]; simp [Sv.one]) (by rw [Sv.cells_val]; rfl) (by decide) (by rw [Sv.cells_val]; rfl) hk
theorem st_copyS {α : Type} {enc : α → Array Value} {x y : Operand} {tx tys e : TypeId} {i b o dl dc : Nat} {sv : Sv} {ys : List α} {cs : Array Value} {T : TypeId} (hx : ev env x = some (.slice (some ⟨b, o, none⟩) dl dc)) (hy : ev env y = some sv.val)
    [ht : SliceT P tx e 1] [hh : Has L b cs T i] [q : Hd w0 L sv enc 1 ys] [he : Enc enc 1] (h0 : 0 < ys.length) (hl : ys.length ≤ dl) (ho : o + ys.length ≤ cs.size)
    {cs' : Array Value} {L' : List Ent} (hcs : over cs o (flatR enc ys).toArray = cs') [hu : Upd L i (blk b cs' T) L'] (hk : K ((.int .i64 (ys.length : Nat))) (L')) :
    Stp P N w0 env L ⟨d, .call { callee := .builtin .copy, args := #[x, y], argTypes := #[tx, tys] }, ty, ps, af, none⟩ K := fun a w ha hw => by
  have r := q.h w hw
  have hn := r.some (i := 0) h0
  have hlen := r.len
  rw [Sv.val_some hn, r.ok.sp (by have := r.ok.le; omega)] at hy
  have hs : (flatR enc ys).toArray.size = ys.length := by rw [List.size_toArray, flatR_length, Nat.mul_one]
  have hk' := hk
  rw [← hs] at hk'
  refine st_copy (vs := (flatR enc ys).toArray) hx hy ?_ (fun w hw j hj => ?_) ?_ (by rw [hs]; exact ho) hcs hk' a w ha hw
  · rw [hs]; simp only [Nat.min_def]; split <;> omega
  · rw [hs] at hj
    have := flatR_get (enc := enc) ys j ys[j] (by simp [hj]) 0 (by decide)
    have r2 := (q.h w hw).row j ys[j] (by simp [hj]) 0 (by decide)
    simp only [Nat.mul_one, Nat.add_zero] at this r2
    rw [Addr.add_none, cell_hp, r2, ← this]; simp
  · rw [Array.all_eq_true_iff_forall_mem]; intro v hv; exact flatR_one (enc := enc) ys v (by simpa using hv)
end

/-- The nil slice is held alone. -/
theorem st_own0 {o : Oper} {α : Type} (enc : α → Array Value) (c : Nat) (h : Stp P N w0 env (own enc c Sv.none [] :: L) o K) : Stp P N w0 env L o K := fun a w ha hw => h a w ha (hw.nilOwn enc c)
section
variable {τ : Type} [dp : Deep τ] {enc : τ → Array Value} {c : Nat}
theorem st_ownD0 {o : Oper} (τ : Type) [Deep τ] {enc : τ → Array Value} {c : Nat} [f : FlatT τ enc c] (h : Stp P N w0 env (Deep.ent (⟨Sv.none, []⟩ : Sl τ) :: L) o K) : Stp P N w0 env L o K := fun a w ha hw => h a w ha (Mem.nilEnt (enc := enc) (c := c) hw)
theorem st_appendD {s : Sv} {t tx e e' : TypeId} {x y : Operand} {by' m : Nat} [f : FlatT τ enc c] [ht : SlT P t e c by'] [ht' : SliceT P tx e' m] [he : Enc enc c] (a : Sl τ) (ys : List τ) (hx : ev env x = some a.sv.val) (hy : ev env y = some s.val) [q : Hd w0 L s enc c ys]
    [k1 : Take L a R1] [k2 : TakeL R1 ys R2] (hc : 0 < c) (hb : (a.xs.length + ys.length) * by' ≤ 140737488355328) (h63 : a.xs.length + ys.length ≤ 140737488355328)
    (hk : ∀ a' : Sl τ, a'.xs = a.xs ++ ys → K a'.sv.val (Deep.ent a' :: R2)) :
    Stp P N w0 env L ⟨d, .call { callee := .builtin .append, args := #[x, y], argTypes := #[t, tx] }, ty, ps, af, none⟩ K :=
  st_mono (st_appendG (K := fun v L' => ∃ s', v = Sv.val s' ∧ L' = own enc c s' (a.xs ++ ys) :: (a.xs.map dp.ent ++ (ys.map dp.ent ++ R2))) (enc := enc) (c := c) (xs := a.xs) (ys := ys) (a.xs.map dp.ent ++ (ys.map dp.ent ++ R2)) hx hy (fun w hw => ((k1.h.trans (k2.h.cons _)).trans Tr.open_d).mem hw) hc (fun w hw => src_rows ht'.und hc (q.h w hw)) hb h63
    (fun s' => ⟨s', rfl, rfl⟩)) fun v L' ⟨s', hv, hL⟩ => ⟨Deep.ent (⟨s', a.xs ++ ys⟩ : Sl τ) :: R2, fun w hw => by
      have t1 : Tr (own enc c s' (a.xs ++ ys) :: (a.xs.map dp.ent ++ (ys.map dp.ent ++ R2))) (Deep.ent (⟨s', a.xs ++ ys⟩ : Sl τ) :: R2) := by
        have := Tr.shut_d (enc := enc) (c := c) (a := (⟨s', a.xs ++ ys⟩ : Sl τ)) (L := R2)
        simpa using this
      rw [hL] at hw
      exact t1.mem hw, by rw [hv]; exact hk ⟨s', a.xs ++ ys⟩ rfl⟩
end
theorem sq_st {l : List Oper} {rest : List Oper} {o : Oper} (hg : o.guard = none) (hd : dstOk N o.dst = true) (h : Stp P N w0 env L o (fun v L' => Sq P N w0 l Q rest (putE env o.dst v) L')) : Sq P N w0 l Q (o :: rest) env L := fun a w ha hw => by
  unfold wpList
  rw [if_pos (wanted_none hg)]
  refine .inl ?_
  have h1 := h a w ha hw
  unfold Oper.wp
  generalize (execOp a.eval o).run P w = r at h1
  unfold upon at h1
  split at h1
  · obtain ⟨L', h2, h3⟩ := h1; exact h3 _ _ (ha.put hd _) h2
  · obtain ⟨L', h2, h3⟩ := h1; exact h3 _ _ (ha.put hd _) h2
  · obtain ⟨rfl, hc⟩ := h1
    exact hc.mono fun e w'' ⟨v, he, L', h2, h3⟩ => by subst he; exact h3 _ _ (ha.put hd _) h2
  · exact h1.elim
end

/-! The line of a region. -/
section
variable {P : Program} {N : Fra} {w0 : World} {env : Env} {L Lq : List Ent} {l : List Oper} {fs ord : List Nat} {Q : Exit → Act → World → Prop} {k : Nat} {o : Oper}
def Ln (P : Program) (N : Fra) (w0 : World) (l : List Oper) (fs : List Nat) (Q : Exit → Act → World → Prop) (ord : List Nat) (env : Env) (L Lq : List Ent) : Prop := ∀ a, Rep N env a → Lin P l fs Q w0 ord a L Lq
theorem ln_nil (h : Ex N w0 Q .normal env L) : Ln P N w0 l fs Q [] env L Lq := fun a ha w hw => h a w ha hw
theorem ln_quiet {v : Value} (ho : l[k]? = some o) (hf : fs.contains k = false) (hd : dstOk N o.dst = true) (h1 : ∀ a, Rep N env a → Region.wanted o (yielded l.toArray a.tmps) = true → quietR P o a (Mem w0 Lq) v) (h2 : ∀ a, Rep N env a → Region.wanted o (yielded l.toArray a.tmps) = false → v = undef)
    (hk : Ln P N w0 l fs Q ord (putE env o.dst v) L Lq) (hf2 : fs.contains (k + 1000) = false := by rfl) : Ln P N w0 l fs Q (k :: ord) env L Lq := fun a ha =>
  ⟨o, ho, by
    rw [if_neg (by rw [hf]; exact Bool.false_ne_true)]
    exact ⟨v, by rw [if_neg (by rw [hf2]; exact Bool.false_ne_true)]; exact h1 a ha, h2 a ha, hk _ (ha.put hd v)⟩⟩
/-- A quiet operation that looks at the memory as it is at its place. -/
theorem lt_y {v : Value} (ho : l[k]? = some o) (h : Yl P N w0 env L o v) (hk : Ln P N w0 l fs Q ord (putE env o.dst v) L Lq) (hg : o.guard = none := by rfl) (hd : dstOk N o.dst = true := by rfl) (hf : fs.contains k = false := by rfl) (hf2 : fs.contains (k + 1000) = true := by rfl) : Ln P N w0 l fs Q (k :: ord) env L Lq := fun a ha =>
  ⟨o, ho, by
    rw [if_neg (by rw [hf]; exact Bool.false_ne_true)]
    exact ⟨v, fun _ => by rw [if_pos hf2]; exact h a ha, (fun hw => by rw [wanted_none hg] at hw; cases hw), hk _ (ha.put hd v)⟩⟩
theorem lt_r {v : Value} (ho : l[k]? = some o) (h : Ry P N w0 env L o v) (hk : Ln P N w0 l fs Q ord (putE env o.dst v) L Lq) (hg : o.guard = none := by rfl) (hd : dstOk N o.dst = true := by rfl) (hf : fs.contains k = false := by rfl) (hf2 : fs.contains (k + 1000) = true := by rfl) : Ln P N w0 l fs Q (k :: ord) env L Lq := lt_y ho h.yl hk hg hd hf hf2
theorem ln_y {v : Value} (ho : l[k]? = some o) (h : Yl P N w0 env Lq o v) (hk : Ln P N w0 l fs Q ord (putE env o.dst v) L Lq) (hg : o.guard = none := by rfl) (hd : dstOk N o.dst = true := by rfl) (hf : fs.contains k = false := by rfl) (hf2 : fs.contains (k + 1000) = false := by rfl) : Ln P N w0 l fs Q (k :: ord) env L Lq :=
  ln_quiet (hf2 := hf2) ho hf hd (fun a ha _ => h a ha) (fun a ha hw => by rw [wanted_none hg] at hw; cases hw) hk
theorem ln_r {v : Value} (ho : l[k]? = some o) (h : Ry P N w0 env Lq o v) (hk : Ln P N w0 l fs Q ord (putE env o.dst v) L Lq) (hg : o.guard = none := by rfl) (hd : dstOk N o.dst = true := by rfl) (hf : fs.contains k = false := by rfl) (hf2 : fs.contains (k + 1000) = false := by rfl) : Ln P N w0 l fs Q (k :: ord) env L Lq := ln_y ho h.yl hk hg hd hf hf2
theorem ln_gt {v : Value} {j t : Nat} {g : Bool} (ho : l[k]? = some o) (hg : o.guard = some (j, true)) (hj : (l[j]?).bind (·.dst) = some t) (hv : look env t = some (.bool g)) (h : g = true → Yl P N w0 env Lq o v)
    (hk : Ln P N w0 l fs Q ord (putE env o.dst (if g = true then v else undef)) L Lq) (hd : dstOk N o.dst = true := by rfl) (hf : fs.contains k = false := by rfl) (hf2 : fs.contains (k + 1000) = false := by rfl) : Ln P N w0 l fs Q (k :: ord) env L Lq :=
  ln_quiet (hf2 := hf2) ho hf hd (fun a ha hw => by
    rw [wanted_some ha hg hj hv] at hw
    cases g
    · cases hw
    · exact h rfl a ha) (fun a ha hw => by
    rw [wanted_some ha hg hj hv] at hw
    cases g
    · rfl
    · cases hw) hk
theorem ln_gf {v : Value} {j t : Nat} {g : Bool} (ho : l[k]? = some o) (hg : o.guard = some (j, false)) (hj : (l[j]?).bind (·.dst) = some t) (hv : look env t = some (.bool g)) (h : (!g) = true → Yl P N w0 env Lq o v)
    (hk : Ln P N w0 l fs Q ord (putE env o.dst (if (!g) = true then v else undef)) L Lq) (hd : dstOk N o.dst = true := by rfl) (hf : fs.contains k = false := by rfl) (hf2 : fs.contains (k + 1000) = false := by rfl) : Ln P N w0 l fs Q (k :: ord) env L Lq :=
  ln_quiet (hf2 := hf2) ho hf hd (fun a ha hw => by
    rw [wanted_some ha hg hj hv] at hw
    cases g
    · exact h rfl a ha
    · cases hw) (fun a ha hw => by
    rw [wanted_some ha hg hj hv] at hw
    cases g
    · cases hw
    · rfl) hk
theorem ln_nt {v : Value} {j t : Nat} {c g : Bool} (ho : l[k]? = some o) (hg : o.guard = some (j, true)) (hj : (l[j]?).bind (·.dst) = some t) (hv : look env t = some (if c = true then .bool g else undef)) (h : (c && g) = true → Yl P N w0 env Lq o v)
    (hk : Ln P N w0 l fs Q ord (putE env o.dst (if (c && g) = true then v else undef)) L Lq) (hd : dstOk N o.dst = true := by rfl) (hf : fs.contains k = false := by rfl) (hf2 : fs.contains (k + 1000) = false := by rfl) : Ln P N w0 l fs Q (k :: ord) env L Lq :=
  ln_quiet (hf2 := hf2) ho hf hd (fun a ha hw => by
    rw [wanted_nest ha hg hj hv] at hw
    cases c <;> cases g <;> first | exact h rfl a ha | cases hw) (fun a ha hw => by
    rw [wanted_nest ha hg hj hv] at hw
    cases c <;> cases g <;> first | rfl | cases hw) hk
theorem ln_nf {v : Value} {j t : Nat} {c g : Bool} (ho : l[k]? = some o) (hg : o.guard = some (j, false)) (hj : (l[j]?).bind (·.dst) = some t) (hv : look env t = some (if c = true then .bool g else undef)) (h : (c && !g) = true → Yl P N w0 env Lq o v)
    (hk : Ln P N w0 l fs Q ord (putE env o.dst (if (c && !g) = true then v else undef)) L Lq) (hd : dstOk N o.dst = true := by rfl) (hf : fs.contains k = false := by rfl) (hf2 : fs.contains (k + 1000) = false := by rfl) : Ln P N w0 l fs Q (k :: ord) env L Lq :=
  ln_quiet (hf2 := hf2) ho hf hd (fun a ha hw => by
    rw [wanted_nest ha hg hj hv] at hw
    cases c <;> cases g <;> first | exact h rfl a ha | cases hw) (fun a ha hw => by
    rw [wanted_nest ha hg hj hv] at hw
    cases c <;> cases g <;> first | rfl | cases hw) hk
theorem ln_ty {v : Value} {j t : Nat} {b g : Bool} (ho : l[k]? = some o) (hg : o.guard = some (j, b)) (hj : (l[j]?).bind (·.dst) = some t) (hv : look env t = some (.bool g)) (ht : g = b) (h : Yl P N w0 env Lq o v)
    (hk : Ln P N w0 l fs Q ord (putE env o.dst v) L Lq) (hd : dstOk N o.dst = true := by rfl) (hf : fs.contains k = false := by rfl) (hf2 : fs.contains (k + 1000) = false := by rfl) : Ln P N w0 l fs Q (k :: ord) env L Lq :=
  ln_quiet (hf2 := hf2) ho hf hd (fun a ha _ => h a ha) (fun a ha hw => by
    rw [wanted_some ha hg hj hv, ht, beq_self_eq_true] at hw; cases hw) hk
/-- What makes or writes. -/
theorem ln_st' (ho : l[k]? = some o) (h : Stp P N w0 env L o fun v L' => ∃ Lq', (∀ w, Mem w0 L' w → Mem w0 Lq' w) ∧ (∀ w, Mem w0 Lq' w → Mem w0 Lq w) ∧ Ln P N w0 l fs Q ord (putE env o.dst v) L' Lq') (hg : o.guard = none := by rfl) (hd : dstOk N o.dst = true := by rfl) (hf : fs.contains k = true := by rfl) (hf3 : fs.contains (k + 2000) = false := by rfl) : Ln P N w0 l fs Q (k :: ord) env L Lq := fun a ha =>
  ⟨o, ho, by
    rw [if_pos hf, if_neg (by rw [hf3]; exact Bool.false_ne_true)]
    exact ⟨wanted_none hg, fun w hw => upon_mono (fun v w' ⟨L', h1, Lq', h2, h3, h4⟩ => ⟨L', Lq', h1, h2, h3, h4 _ (ha.put hd v)⟩) (h a w ha hw)⟩⟩
/-- .. under a guard that is known to hold. -/
theorem ln_stT {j t : Nat} {b g : Bool} (ho : l[k]? = some o) (hg : o.guard = some (j, b)) (hj : (l[j]?).bind (·.dst) = some t) (hv : look env t = some (.bool g)) (ht : g = b) (h : Stp P N w0 env L o fun v L' => (∀ w, Mem w0 L' w → Mem w0 Lq w) ∧ Ln P N w0 l fs Q ord (putE env o.dst v) L' L') (hd : dstOk N o.dst = true := by rfl) (hf : fs.contains k = true := by rfl) (hf3 : fs.contains (k + 2000) = false := by rfl) : Ln P N w0 l fs Q (k :: ord) env L Lq := fun a ha =>
  ⟨o, ho, by
    rw [if_pos hf, if_neg (by rw [hf3]; exact Bool.false_ne_true)]
    exact ⟨by rw [wanted_some ha hg hj hv, ht]; simp, fun w hw => upon_mono (fun v w' ⟨L', h1, h2, h4⟩ => ⟨L', L', h1, fun _ h => h, h2, h4 _ (ha.put hd v)⟩) (h a w ha hw)⟩⟩
theorem ln_st (ho : l[k]? = some o) (h : Stp P N w0 env L o fun v L' => (∀ w, Mem w0 L' w → Mem w0 Lq w) ∧ Ln P N w0 l fs Q ord (putE env o.dst v) L' Lq) (hg : o.guard = none := by rfl) (hd : dstOk N o.dst = true := by rfl) (hf : fs.contains k = true := by rfl) (hf3 : fs.contains (k + 2000) = false := by rfl) : Ln P N w0 l fs Q (k :: ord) env L Lq :=
  ln_st' (hf3 := hf3) ho (st_mono h fun v L' ⟨h1, h2⟩ => ⟨L', fun _ h => h, Lq, h1, fun _ h => h, h2⟩) hg hd hf
/-- A new block of zeros, one of several that are made in whatever order. -/
theorem isAlloc_of {t : TypeId} {z : Value} [hz : ZeroT P t z] {d : Option Tmp} {ty : TypeId} {ps : String} {af : Array Edge} {gd : Option (Nat × Bool)} : IsAlloc P ⟨d, .alloc t, ty, ps, af, gd⟩ t z := fun ρ w => by
  simp only [execOp, Instr.alloc, newVar, newRow, Sem.run_bind, run_zeroValue' w hz, newObj, Sem.run, Result.andThen, Sem.run_pure]; rfl
theorem ln_al {t : TypeId} {z : Value} {d : Option Tmp} {ty : TypeId} {ps : String} {af : Array Edge} [hz : ZeroT P t z] (ho : l[k]? = some ⟨d, .alloc t, ty, ps, af, none⟩) (hk : ∀ b, Ln P N w0 l fs Q ord (putE env d (.pointer (some ⟨b, 0, none⟩))) (blk b z.cells t :: L) Lq) (hd : dstOk N d = true := by rfl) (hf : fs.contains k = true := by rfl) (hf2 : fs.contains (k + 2000) = true := by rfl) : Ln P N w0 l fs Q (k :: ord) env L Lq := fun a ha =>
  ⟨_, ho, by
    rw [if_pos hf, if_pos hf2]
    exact ⟨rfl, t, z, isAlloc_of, fun b => hk b _ (ha.put hd _)⟩⟩
theorem ln_alA {t : TypeId} {cs : Array Value} {d : Option Tmp} {ty : TypeId} {ps : String} {af : Array Edge} [hz : ZeroT P t (.agg cs)] (ho : l[k]? = some ⟨d, .alloc t, ty, ps, af, none⟩) (hk : ∀ b, Ln P N w0 l fs Q ord (putE env d (.pointer (some ⟨b, 0, none⟩))) (blk b cs t :: L) Lq) (hd : dstOk N d = true := by rfl) (hf : fs.contains k = true := by rfl) (hf2 : fs.contains (k + 2000) = true := by rfl) : Ln P N w0 l fs Q (k :: ord) env L Lq := ln_al (z := .agg cs) ho hk hd hf hf2
/-- The operations of als make blocks of zeros. -/
inductive Als (P : Program) (l : List Oper) : List Nat → Prop
  | nil : Als P l []
  | cons {k : Nat} {ks : List Nat} {t : TypeId} {z : Value} {d : Option Tmp} {ty : TypeId} {ps : String} {af : Array Edge} (ho : l[k]? = some ⟨d, .alloc t, ty, ps, af, none⟩) (hz : ZeroT P t z) (h : Als P l ks) : Als P l (k :: ks)
theorem Als.get {als : List Nat} (h : Als P l als) {k : Nat} (hk : k ∈ als) : ∃ o t z, l[k]? = some o ∧ o.guard = none ∧ IsAlloc P o t z := by
  induction h with
  | nil => cases hk
  | cons ho hz h ih =>
    rcases List.mem_cons.1 hk with rfl | hk
    · exact ⟨_, _, _, ho, rfl, @isAlloc_of _ _ _ hz _ _ _ _ _⟩
    · exact ih hk
theorem cw_lin2 {id : Nat} [Tame Q] (fs : List Nat) (A : List (List Nat)) (ord : List Nat) (Lq : List Ent) (als : List Nat) (hals : Als P l als) (hck : ((fs.all fun j => decide (j < 2000) || als.contains (j - 2000)) && als.all fun k => fs.contains k) = true) (hsub : ∀ w, Mem w0 L w → Mem w0 Lq w) (hm : P.follows .mixedOrders = true) (hB : linB2 l fs A ord = true) (h : Ln P N w0 l fs Q ord env L Lq) (hnd : noDefer l = true := by kernel_rfl) : Cw P N w0 Q (.region id l.toArray true) env L := fun a _ ha hw => by
  rw [Bool.and_eq_true] at hck
  have h1 : ∀ k, fs.contains (k + 2000) = true → k ∈ als := fun k hk => by
    have := List.all_eq_true.1 hck.1 (k + 2000) (by simpa using hk)
    rw [Bool.or_eq_true, decide_eq_true_eq] at this
    rcases this with h | h
    · omega
    · simpa using h
  refine wp_region_lin2 A ord hnd hm hB hw.drew' hsub (fun k hk => ?_) (fun k hk => hals.get (h1 k hk)) (h a ha)
  cases h2 : fs.contains (k + 2000) with
  | false => rfl
  | true =>
    have := List.all_eq_true.1 hck.2 k (h1 k h2)
    rw [hk] at this; cases this
theorem cw_lin {id : Nat} [Tame Q] (fs : List Nat) (A : List (List Nat)) (ord : List Nat) (Lq : List Ent) (hsub : ∀ w, Mem w0 L w → Mem w0 Lq w) (hm : P.follows .mixedOrders = true) (hB : linB l fs A ord = true) (h : Ln P N w0 l fs Q ord env L Lq) (hnd : noDefer l = true := by kernel_rfl) : Cw P N w0 Q (.region id l.toArray true) env L := fun a _ ha hw =>
  wp_region_lin A ord hnd hm hB hw.drew' hsub (h a ha)
end
end Go.Eng
