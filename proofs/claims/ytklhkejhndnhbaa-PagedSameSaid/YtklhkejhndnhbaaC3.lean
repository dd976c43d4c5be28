/- Steps that make or write memory, and the line of a region that draws its order. -/
import Derived.Test.YtklhkejhndnhbaaC2
import Derived.Test.YtklhkejhndnhbaaC1

set_option linter.unusedSimpArgs false
set_option linter.unusedVariables false
namespace Go.Eng
open Go.RowKit
section
variable {P : Program} {N : Fra} {w0 : World} {env : Env} {L R R1 R2 : List Ent} {Q : Exit → Act → World → Prop} {d : Option Tmp} {ty : TypeId} {ps : String} {af : Array Edge} {gd : Option (Nat × Bool)} {K : Value → List Ent → Prop}
def Stp (P : Program) (N : Fra) (w0 : World) (env : Env) (L : List Ent) (o : Oper) (K : Value → List Ent → Prop) : Prop :=
  ∀ a w, Rep N env a → Mem w0 L w → upon P w (fun v w' => ∃ L', Mem w0 L' w' ∧ K v L') ((execOp a.eval o).run P w)
theorem st_run {o : Oper} (h : ∀ a w, Rep N env a → Mem w0 L w → ∃ v w' L', (execOp a.eval o).run P w = .ok (.value v) w' ∧ Mem w0 L' w' ∧ K v L') : Stp P N w0 env L o K := fun a w ha hw => by
  obtain ⟨v, w', L', h1, h2, h3⟩ := h a w ha hw
  rw [h1]; exact ⟨L', h2, h3⟩
theorem st_skip {o : Oper} (h : ∀ a w, Rep N env a → Mem w0 L w → ∃ w' L', (execOp a.eval o).run P w = .ok .skip w' ∧ Mem w0 L' w' ∧ K undef L') : Stp P N w0 env L o K := fun a w ha hw => by
  obtain ⟨w', L', h1, h2, h3⟩ := h a w ha hw
  rw [h1]; exact ⟨L', h2, h3⟩
theorem upon_mono {w : World} {R R' : Value → World → Prop} (h : ∀ v w, R v w → R' v w) {r : Result Next} (hr : upon P w R r) : upon P w R' r := by
  unfold upon at hr ⊢
  split at hr
  · exact h _ _ hr
  · exact h _ _ hr
  · exact ⟨hr.1, hr.2.mono fun e w'' ⟨v, he, hv⟩ => ⟨v, he, h _ _ hv⟩⟩
  · exact hr.elim
theorem st_mono {o : Oper} {K' : Value → List Ent → Prop} (h : Stp P N w0 env L o K') (hk : ∀ v L', K' v L' → ∃ L'', (∀ w, Mem w0 L' w → Mem w0 L'' w) ∧ K v L'') : Stp P N w0 env L o K := fun a w ha hw =>
  upon_mono (fun v _ ⟨L', h1, h2⟩ => by obtain ⟨L'', h3, h4⟩ := hk v L' h2; exact ⟨L'', h3 _ h1, h4⟩) (h a w ha hw)
theorem st_mem {o : Oper} (L' : List Ent) (h : ∀ w, Mem w0 L w → Mem w0 L' w) (hk : Stp P N w0 env L' o K) : Stp P N w0 env L o K := fun a w ha hw => hk a w ha (h w hw)
theorem st_r {o : Oper} {v : Value} (h : Ry P N w0 env L o v) (hk : K v L) : Stp P N w0 env L o K := st_run fun a w ha hw => ⟨v, w, L, h a w ha hw, hw, hk⟩
theorem st_callC {X : Type} {val : X → Value} {L' : X → List Ent} {pr : X → Prop} {pre : Prop} {f : FuncId} {xs : List Operand} {ts : Array TypeId} {vs : List Value} [hf : IsFn P f] (hx : evl env xs = some vs)
    [hc : FnC P f w0 L vs X val L' pr pre] (hp : pre) (hk : ∀ x, pr x → K (val x) (L' x)) :
    Stp P N w0 env L ⟨d, .call { callee := .value (.func f), args := xs.toArray, argTypes := ts }, ty, ps, af, gd⟩ K := fun a w ha hw => by
  rw [run_call hf w rfl, ha.evl hx]
  exact ⟨rfl, (hc.h hp w hw).mono fun e w' ⟨x, he, hpx, hm⟩ => ⟨val x, he, L' x, hm, hk x hpx⟩⟩
section
variable {α : Type} {enc : α → Array Value} {c : Nat} {s : Sv} {xs ys : List α}
theorem st_box {t : TypeId} {x : Operand} {v : Value} (hx : ev env x = some v) (hk : ∀ b, K ((.pointer (some ⟨b, 0, none⟩))) ((blk b v.cells t :: L))) :
    Stp P N w0 env L ⟨d, .box t x, ty, ps, af, none⟩ K :=
  st_run fun a w ha hw => ⟨_, _, _, by simp only [execOp, ha.ev hx, Instr.box, newVar, newRow, Sem.run_bind, newObj, Sem.run, Result.andThen, Sem.run_pure]; rfl, hw.alloc v.cells t, hk _⟩
theorem st_alloc {t : TypeId} {z : Value} [hz : ZeroT P t z] (hk : ∀ b, K ((.pointer (some ⟨b, 0, none⟩))) ((blk b z.cells t :: L))) :
    Stp P N w0 env L ⟨d, .alloc t, ty, ps, af, none⟩ K :=
  st_run fun a w ha hw => ⟨_, _, _, by simp only [execOp, Instr.alloc, newVar, newRow, Sem.run_bind, run_zeroValue' w hz, newObj, Sem.run, Result.andThen, Sem.run_pure]; rfl, hw.alloc z.cells t, hk _⟩
theorem st_boxA {t : TypeId} {x : Operand} {cs : Array Value} (hx : ev env x = some (.agg cs)) (hk : ∀ b, K ((.pointer (some ⟨b, 0, none⟩))) ((blk b cs t :: L))) :
    Stp P N w0 env L ⟨d, .box t x, ty, ps, af, none⟩ K := st_box hx hk
theorem st_allocA {t : TypeId} {cs : Array Value} [hz : ZeroT P t (.agg cs)] (hk : ∀ b, K ((.pointer (some ⟨b, 0, none⟩))) ((blk b cs t :: L))) :
    Stp P N w0 env L ⟨d, .alloc t, ty, ps, af, none⟩ K := st_alloc (z := .agg cs) hk
theorem st_store {t : TypeId} {x y : Operand} {i b o : Nat} {cs : Array Value} {T : TypeId} {v : Value} (hx : ev env x = some (.pointer (some ⟨b, o, none⟩))) (hy : ev env y = some v) [ht : OneT P t] [hh : Has L b cs T i] (ho : o < cs.size) (hv : v.oneCell' = true) {cs' : Array Value} {L' : List Ent} (hcs : cs.setIfInBounds o v = cs') [hu : Upd L i (blk b cs' T) L'] (hk : K undef (L')) :
    Stp P N w0 env L ⟨none, .store t x y, ty, ps, af, none⟩ K :=
  st_skip fun a w ha hw => by
    have hi := hh.h
    have hb := hw.block hi
    have hc : w.cell? ⟨b, o, none⟩ = some cs[o] := by rw [hw.cell hi]; simp [ho]
    have hf : w.frozen? ⟨b, o, none⟩ = false := frozen_of_row w b o cs T hb
    subst hcs
    refine ⟨w.setCell ⟨b, o, none⟩ v, _, ?_, ?_, hk⟩
    · have h1 : (storeCells ⟨b, o, none⟩ [v]).run P w = .ok () (w.setCell ⟨b, o, none⟩ v) := by
        have := run_storeCells_at (P := P) b o T [v] 0 cs w hb (by simp; omega) (by simpa using hv)
        rw [this, setCell_eq_setRow w b o cs T (0, 0) v hb]
        congr 2
        apply Array.ext'
        simp [List.set_eq_take_append_cons_drop, ho]
      have hcs : v.cells = #[v] := by cases v <;> simp_all [Value.oneCell', Value.cells]
      simp only [execOp, ha.ev hx, ha.ev hy, Instr.storeAt, Instr.sureAddr, storeVar, Sem.run_bind, Sem.run_pure, Result.andThen, run_sizeOf' w ht.size, hcs]
      simp [h1]
    · rw [setCell_eq_setRow w b o cs T (0, 0) v hb]
      rw [← hu.h]
      exact hw.setRow hi _
theorem st_storeN {t : TypeId} {x y : Operand} {i b o n : Nat} {cs vs : Array Value} {T : TypeId} (hx : ev env x = some (.pointer (some ⟨b, o, none⟩))) (hy : ev env y = some (.agg vs)) [ht : RowT P t n] [hh : Has L b cs T i] [hs : SizeIs vs n] (ho : o + n ≤ cs.size) {cs' : Array Value} {L' : List Ent} (hcs : over cs o vs = cs') [hu : Upd L i (blk b cs' T) L'] (hk : K undef (L')) :
    Stp P N w0 env L ⟨none, .store t x y, ty, ps, af, none⟩ K :=
  st_skip fun a w ha hw => by
    have hi := hh.h
    have hn := hs.h
    have hv := hs.one
    have hb := hw.block hi
    subst hcs
    refine ⟨_, _, ?_, by rw [← hu.h]; exact hw.setRow hi _, hk⟩
    have h1 := run_storeCells_at (P := P) b o T vs.toList 0 cs w hb (by simp; omega) (fun v hv' => (Array.all_eq_true_iff_forall_mem.1 hv) v (by simpa using hv'))
    simp only [execOp, ha.ev hx, ha.ev hy, Instr.storeAt, Instr.sureAddr, storeVar, Value.cells, Sem.run_bind, Sem.run_pure, Result.andThen, run_sizeOf' w ht.size, hn]
    simp [h1, over]
theorem st_storeW {t : TypeId} {x y : Operand} {i b n : Nat} {cs vs : Array Value} {T : TypeId} (hx : ev env x = some (.pointer (some ⟨b, 0, none⟩))) (hy : ev env y = some (.agg vs)) [ht : RowT P t n] [hh : Has L b cs T i] [hs : SizeIs vs n] [hc : SizeIs cs n] {L' : List Ent} [hu : Upd L i (blk b vs T) L'] (hk : K undef (L')) :
    Stp P N w0 env L ⟨none, .store t x y, ty, ps, af, none⟩ K := by
  have hn := hs.h
  have hc' := hc.h
  refine st_storeN hx hy (by omega) (?_ : over cs 0 vs = vs) hk
  apply Array.ext'
  simp [over]; omega
theorem st_copy {x y : Operand} {tx tys e : TypeId} {i b o dl dc sl sc : Nat} {a : Addr} {cs vs : Array Value} {T : TypeId} (hx : ev env x = some (.slice (some ⟨b, o, none⟩) dl dc)) (hy : ev env y = some (.slice (some a) sl sc))
    [ht : SliceT P tx e 1] [hh : Has L b cs T i] (hn : vs.size = Nat.min sl dl) (hsrc : ∀ w, Mem w0 L w → ∀ j, j < vs.size → w.cell? (a.add j) = vs[j]?) (hv : vs.all (·.oneCell') = true) (ho : o + vs.size ≤ cs.size)
    {cs' : Array Value} {L' : List Ent} (hcs : over cs o vs = cs') [hu : Upd L i (blk b cs' T) L'] (hk : K ((.int .i64 vs.size)) (L')) :
    Stp P N w0 env L ⟨d, .call { callee := .builtin .copy, args := #[x, y], argTypes := #[tx, tys] }, ty, ps, af, none⟩ K :=
  st_run fun aa w ha hw => by
    have hi := hh.h
    have hb := hw.block hi
    subst hcs
    have hrun := run_copy_row (P := P) w tx tys ty e b o dl dc a sl sc cs T vs.toList ht.und ht.size hb (by simpa using hn)
      (fun j v hv' => by
        have hj : j < vs.size := by simpa using (List.getElem?_eq_some_iff.1 hv').1
        rw [hsrc w hw j hj]; simpa using hv') (by simpa using ho) (fun v hv' => (Array.all_eq_true_iff_forall_mem.1 hv) v (by simpa using hv'))
    refine ⟨_, w.setRow b (over cs o vs), _, ?_, by rw [← hu.h]; exact hw.setRow hi _, hk⟩
    simp [execOp, ha.ev hx, ha.ev hy, resolve, invoke, builtin, hrun, Result.andThen, goInt, over]
theorem st_append {t tx e : TypeId} {x y : Operand} {yv : Value} {by' i : Nat} [ht : SlT P t e c by'] [he : Enc enc c] (hx : ev env x = some s.val) (hy : ev env y = some yv) [q : Owns L s enc c xs i] (hc : 0 < c)
    (hs : ∀ w, Mem w0 L w → Src P c tx yv ys.length (flatR enc ys) w) (hb : (xs.length + ys.length) * by' ≤ 140737488355328) (h63 : xs.length + ys.length ≤ 140737488355328) {L' : Sv → List Ent} [hu : ∀ s', Upd L i (own enc c s' (xs ++ ys)) (L' s')]
    (hk : ∀ s' : Sv, s'.Ok → s'.len = (xs ++ ys).length → K (s'.val) ((L' s'))) :
    Stp P N w0 env L ⟨d, .call { callee := .builtin .append, args := #[x, y], argTypes := #[t, tx] }, ty, ps, af, none⟩ K :=
  st_run fun a w ha hw => by
    obtain ⟨s', w', h1, h2, h3, h4⟩ := append_own (ty := ty) ht hc hw q.h (hs w hw) hb h63
    refine ⟨s'.val, w', L' s', ?_, by rw [← (hu s').h]; exact h4, hk s' h2 h3⟩
    simp [execOp, ha.ev hx, ha.ev hy, resolve, invoke, builtin, h1, Result.andThen]
theorem st_buildSlice {t e : TypeId} {by' n : Nat} [ht : SlT P t e c by'] [he : Enc enc c] {ops : List (Nat × Operand)} {vals : List Value} (xs : List α) (hx : evp env ops = some (idx vals 0)) (hv : vals.map Value.cells = xs.map enc) (hn : xs.length = n) (hc : 0 < n * c) (h24 : n * c ≤ 16777216)
    (hk : ∀ b, K ((Sv.val ⟨false, b, 0, n, n, none⟩)) ((own enc c ⟨false, b, 0, n, n, none⟩ xs :: L))) :
    Stp P N w0 env L ⟨d, .buildSlice t n ops.toArray, ty, ps, af, none⟩ K :=
  st_run fun a w ha hw => by
    subst hn
    have e1 : (ops.toArray.map fun (p : Nat × Operand) => match p with | (i, x) => (i, a.eval x)) = (idx vals 0).toArray := by
      rw [← ha.evp hx]; simp
    refine ⟨_, _, _, ?_, hw.call (mem_new (enc := enc) (c := c) (xs := xs) (cs := (flatR enc xs).toArray) (e := e) rfl xs.length xs.length rfl (Nat.le_refl _) (len24 hc h24) (by simp [flatR_length]) fun i x hx j hj => by rw [← flatR_get (enc := enc) xs i x hx j hj]; simp), hk _⟩
    simp only [execOp, e1, Sem.run_bind, run_buildSlice ht hv hc h24 w, Result.andThen, Sem.run_pure]; rfl
theorem st_makeS {t e : TypeId} {by' n cap : Nat} {z : Value} {x y : Operand} {k k' : IntKind} {ix iy : Int} [ht : SlT P t e c by'] [hz : ZeroT P e z] (x0 : α) (h0 : enc x0 = z.cells) (hx : ev env x = some (.int k ix)) (hy : ev env y = some (.int k' iy)) (ex : ix = (n : Int)) (ey : iy = (cap : Int)) (hle : n ≤ cap) (hb : by' * cap ≤ 281474976710656) (h63 : cap ≤ 140737488355328)
    (hk : ∀ b, K ((Sv.val ⟨false, b, 0, n, cap, none⟩)) ((own enc c ⟨false, b, 0, n, cap, none⟩ (List.replicate n x0) :: L))) :
    Stp P N w0 env L ⟨d, .makeSlice t x y, ty, ps, af, none⟩ K :=
  st_run fun a w ha hw => by
    subst ex ey
    obtain ⟨w', h1, h2⟩ := run_makeS ht hz (k := k) (k' := k') (n := n) x0 h0 hle hb h63 w
    exact ⟨_, w', _, by simp only [execOp, ha.ev hx, ha.ev hy, Sem.run_bind, h1, Result.andThen, Sem.run_pure], hw.call h2, hk _⟩
theorem st_storeS {t : TypeId} {x y : Operand} {i k j n p : Nat} {a a' : α} {v : Value} (sz : (P.info? t).map (·.size) = some n) [he : Enc enc c] (hx : ev env x = some (.pointer (some ⟨s.b, p, none⟩))) (hy : ev env y = some v) [q : Owns L s enc c xs i] (hp' : p = s.o + k * c + j)
    (ha : xs[k]? = some a) (hv : v.cells.all (·.oneCell') = true) (hn : v.cells.size = n) (hj : j + n ≤ c) (he' : over (enc a) j v.cells = enc a') {L' : List Ent} [hu : Upd L i (own enc c s (xs.set k a')) L'] (hk : K undef (L')) :
    Stp P N w0 env L ⟨none, .store t x y, ty, ps, af, none⟩ K :=
  st_skip fun aa w haa hw => by
    subst hp' hn
    obtain ⟨w', h1, h2⟩ := mem_store (P := P) hw q ha hv hj he' hu
    refine ⟨w', _, ?_, h2, hk⟩
    simp only [execOp, haa.ev hx, haa.ev hy, Instr.storeAt, Instr.sureAddr, storeVar, Sem.run_bind, Sem.run_pure, Result.andThen, run_sizeOf' w sz]
    simp [h1]
theorem st_strb {s t e : TypeId} {x : Operand} {xs : List UInt8} (hs : P.underlying s = some .string) (hd : P.underlying t = some (.slice e)) (he : P.underlying e = some (.int .u8)) (hx : ev env x = some (.string ⟨xs.toArray⟩)) (hl : xs.length ≤ 140737488355328)
    (hk : ∀ sv, K ((Sv.val sv)) ((own benc 1 sv xs :: L))) :
    Stp P N w0 env L ⟨d, .convert s t x, ty, ps, af, none⟩ K :=
  st_run fun a w ha hw => by
    obtain ⟨sv, w', h1, h2⟩ := run_strb hs hd he xs hl w
    exact ⟨_, w', _, by simp only [execOp, ha.ev hx, Sem.run_bind, h1, Result.andThen, Sem.run_pure], hw.call h2, hk sv⟩
theorem st_build0 {t e : TypeId} {by' : Nat} (enc : α → Array Value) [ht : SlT P t e c by'] [he : Enc enc c] (hk : ∀ b, K ((Sv.val ⟨false, b, 0, 0, 0, none⟩)) ((own enc c ⟨false, b, 0, 0, 0, none⟩ [] :: L))) :
    Stp P N w0 env L ⟨d, .buildSlice t 0 #[], ty, ps, af, none⟩ K :=
  st_run fun a w _ hw => by
    refine ⟨_, _, _, ?_, hw.call (mem_new (enc := enc) (c := c) (xs := []) (cs := #[]) (e := e) rfl 0 0 rfl (Nat.le_refl _) (Nat.zero_le _) (by simp) (by simp)), hk _⟩
    simp only [execOp, Sem.run_bind, List.map_toArray, List.map_nil, run_build0 ht w, Result.andThen, Sem.run_pure]; rfl
theorem st_appendG {α : Type} {enc : α → Array Value} {c : Nat} {s : Sv} {xs ys : List α} {t tx e : TypeId} {x y : Operand} {yv : Value} {by' : Nat} [ht : SlT P t e c by'] [he : Enc enc c] (R : List Ent) (hx : ev env x = some s.val) (hy : ev env y = some yv)
    (ho : ∀ w, Mem w0 L w → Mem w0 (own enc c s xs :: R) w) (hc : 0 < c) (hs : ∀ w, Mem w0 L w → Src P c tx yv ys.length (flatR enc ys) w) (hb : (xs.length + ys.length) * by' ≤ 140737488355328) (h63 : xs.length + ys.length ≤ 140737488355328)
    (hk : ∀ s' : Sv, K (s'.val) ((own enc c s' (xs ++ ys) :: R))) :
    Stp P N w0 env L ⟨d, .call { callee := .builtin .append, args := #[x, y], argTypes := #[t, tx] }, ty, ps, af, none⟩ K :=
  st_run fun a w ha hw => by
    obtain ⟨s', w', h1, h2, h3, h4⟩ := append_own (i := 0) (ty := ty) ht hc (ho w hw) rfl (hs w hw) hb h63
    refine ⟨s'.val, w', _, ?_, by simpa using h4, hk s'⟩
    simp [execOp, ha.ev hx, ha.ev hy, resolve, invoke, builtin, h1, Result.andThen]
theorem st_storeSv {P : Program} {N : Fra} {w0 : World} {env : Env} {L : List Ent} {ty : TypeId} {ps : String} {af : Array Edge} {τ : Type} {t : TypeId} {x y : Operand} {i k p : Nat} {s : Sv} {xs : List (Sl τ)} {a : Sl τ} (a' : Sl τ)
    (sz : (P.info? t).map (·.size) = some 1) (hx : ev env x = some (.pointer (some ⟨s.b, p, none⟩))) (hy : ev env y = some a'.sv.val) [q : Owns L s (scells (τ := τ)) 1 xs i] (hp' : p = s.o + k * 1) (ha : xs[k]? = some a) {L' : List Ent} [hu : Upd L i (own scells 1 s (xs.set k a')) L'] (hk : K undef (L')) :
    Stp P N w0 env L ⟨none, .store t x y, ty, ps, af, none⟩ K :=
  st_storeS (j := 0) (a' := a') sz hx hy (q := q) hp' ha (by rw [Sv.cells_val]; simp [Sv.one]) (by rw [Sv.cells_val]; rfl) (by decide) (by rw [Sv.cells_val]; rfl) hk
theorem st_copyS {α : Type} {enc : α → Array Value} {x y : Operand} {tx tys e : TypeId} {i b o dl dc : Nat} {sv : Sv} {ys : List α} {cs : Array Value} {T : TypeId} (hx : ev env x = some (.slice (some ⟨b, o, none⟩) dl dc)) (hy : ev env y = some sv.val)
    [ht : SliceT P tx e 1] [hh : Has L b cs T i] [q : Hd w0 L sv enc 1 ys] [he : Enc enc 1] (h0 : 0 < ys.length) (hl : ys.length ≤ dl) (ho : o + ys.length ≤ cs.size)
    {cs' : Array Value} {L' : List Ent} (hcs : over cs o (flatR enc ys).toArray = cs') [hu : Upd L i (blk b cs' T) L'] (hk : K ((.int .i64 (ys.length : Nat))) (L')) :
    Stp P N w0 env L ⟨d, .call { callee := .builtin .copy, args := #[x, y], argTypes := #[tx, tys] }, ty, ps, af, none⟩ K := fun a w ha hw => by
  have r := q.h w hw
  have hn := r.some (i := 0) h0
  have hlen := r.len
  rw [Sv.val_some hn, r.ok.sp (by have := r.ok.le; omega)] at hy
  have hs : (flatR enc ys).toArray.size = ys.length := by rw [List.size_toArray, flatR_length, Nat.mul_one]
  have hk' := hk
  rw [← hs] at hk'
  refine st_copy (vs := (flatR enc ys).toArray) hx hy ?_ (fun w hw j hj => ?_) ?_ (by rw [hs]; exact ho) hcs hk' a w ha hw
  · rw [hs]; simp only [Nat.min_def]; split <;> omega
  · rw [hs] at hj
    have := flatR_get (enc := enc) ys j ys[j] (by simp [hj]) 0 (by decide)
    have r2 := (q.h w hw).row j ys[j] (by simp [hj]) 0 (by decide)
    simp only [Nat.mul_one, Nat.add_zero] at this r2
    rw [Addr.add_none, cell_hp, r2, ← this]; simp
  · rw [Array.all_eq_true_iff_forall_mem]; intro v hv; exact flatR_one (enc := enc) ys v (by simpa using hv)
end

theorem st_own0 {o : Oper} {α : Type} (enc : α → Array Value) (c : Nat) (h : Stp P N w0 env (own enc c Sv.none [] :: L) o K) : Stp P N w0 env L o K := fun a w ha hw => h a w ha (hw.nilOwn enc c)
section
variable {τ : Type} [dp : Deep τ] {enc : τ → Array Value} {c : Nat}
theorem st_ownD0 {o : Oper} (τ : Type) [Deep τ] {enc : τ → Array Value} {c : Nat} [f : FlatT τ enc c] (h : Stp P N w0 env (Deep.ent (⟨Sv.none, []⟩ : Sl τ) :: L) o K) : Stp P N w0 env L o K := fun a w ha hw => h a w ha (Mem.nilEnt (enc := enc) (c := c) hw)
theorem st_appendD {s : Sv} {t tx e e' : TypeId} {x y : Operand} {by' m : Nat} [f : FlatT τ enc c] [ht : SlT P t e c by'] [ht' : SliceT P tx e' m] [he : Enc enc c] (a : Sl τ) (ys : List τ) (hx : ev env x = some a.sv.val) (hy : ev env y = some s.val) [q : Hd w0 L s enc c ys]
    [k1 : Take L a R1] [k2 : TakeL R1 ys R2] (hc : 0 < c) (hb : (a.xs.length + ys.length) * by' ≤ 140737488355328) (h63 : a.xs.length + ys.length ≤ 140737488355328)
    (hk : ∀ a' : Sl τ, a'.xs = a.xs ++ ys → K a'.sv.val (Deep.ent a' :: R2)) :
    Stp P N w0 env L ⟨d, .call { callee := .builtin .append, args := #[x, y], argTypes := #[t, tx] }, ty, ps, af, none⟩ K :=
  st_mono (st_appendG (K := fun v L' => ∃ s', v = Sv.val s' ∧ L' = own enc c s' (a.xs ++ ys) :: (a.xs.map dp.ent ++ (ys.map dp.ent ++ R2))) (enc := enc) (c := c) (xs := a.xs) (ys := ys) (a.xs.map dp.ent ++ (ys.map dp.ent ++ R2)) hx hy (fun w hw => ((k1.h.trans (k2.h.cons _)).trans Tr.open_d).mem hw) hc (fun w hw => src_rows ht'.und hc (q.h w hw)) hb h63
    (fun s' => ⟨s', rfl, rfl⟩)) fun v L' ⟨s', hv, hL⟩ => ⟨Deep.ent (⟨s', a.xs ++ ys⟩ : Sl τ) :: R2, fun w hw => by
      have t1 : Tr (own enc c s' (a.xs ++ ys) :: (a.xs.map dp.ent ++ (ys.map dp.ent ++ R2))) (Deep.ent (⟨s', a.xs ++ ys⟩ : Sl τ) :: R2) := by
        have := Tr.shut_d (enc := enc) (c := c) (a := (⟨s', a.xs ++ ys⟩ : Sl τ)) (L := R2)
        simpa using this
      rw [hL] at hw
      exact t1.mem hw, by rw [hv]; exact hk ⟨s', a.xs ++ ys⟩ rfl⟩
end
theorem sq_st {l : List Oper} {rest : List Oper} {o : Oper} (hg : o.guard = none) (hd : dstOk N o.dst = true) (h : Stp P N w0 env L o (fun v L' => Sq P N w0 l Q rest (putE env o.dst v) L')) : Sq P N w0 l Q (o :: rest) env L := fun a w ha hw => by
  unfold wpList
  rw [if_pos (wanted_none hg)]
  refine .inl ?_
  have h1 := h a w ha hw
  unfold Oper.wp
  generalize (execOp a.eval o).run P w = r at h1
  unfold upon at h1
  split at h1
  · obtain ⟨L', h2, h3⟩ := h1; exact h3 _ _ (ha.put hd _) h2
  · obtain ⟨L', h2, h3⟩ := h1; exact h3 _ _ (ha.put hd _) h2
  · obtain ⟨rfl, hc⟩ := h1
    exact hc.mono fun e w'' ⟨v, he, L', h2, h3⟩ => by subst he; exact h3 _ _ (ha.put hd _) h2
  · exact h1.elim
end

/-! The line of a region. -/
section
variable {P : Program} {N : Fra} {w0 : World} {env : Env} {L Lq : List Ent} {l : List Oper} {fs ord : List Nat} {mk : Nat → Mkr} {Q : Exit → Act → World → Prop} {k : Nat} {o : Oper}
def Ln (P : Program) (N : Fra) (w0 : World) (l : List Oper) (fs : List Nat) (mk : Nat → Mkr) (Q : Exit → Act → World → Prop) (ord : List Nat) (env : Env) (L Lq : List Ent) : Prop := ∀ a, Rep N env a → Lin P l fs mk Q w0 ord a L Lq
def Cert (P : Program) (N : Fra) (env : Env) (l : List Oper) (fs : List Nat) (mk : Nat → Mkr) (ord : List Nat) : Prop :=
  ∀ i ∈ ord, fs.contains (i + 2000) = true → ∃ oi, l[i]? = some oi ∧ oi.guard = none ∧ ∀ a, Rep N env a → Makes P oi a.eval (mk i)
theorem Cert.none (h : (ord.all fun i => !fs.contains (i + 2000)) = true) : Cert P N env l fs mk ord := fun i hi hf => by
  have := List.all_eq_true.1 h i hi
  rw [hf] at this; cases this
theorem Cert.one {i : Nat} {m : Mkr} (ho : l[i]? = some o) (hg : o.guard = Option.none) (hm : mk i = m) (h : ∀ a, Rep N env a → Makes P o a.eval m) (hr : Cert P N env l fs mk (ord.filter fun j => !(j == i))) : Cert P N env l fs mk ord := fun j hj hf => by
  by_cases e : j = i
  · subst e
    exact ⟨o, ho, hg, by rw [hm]; exact h⟩
  · exact hr j (List.mem_filter.2 ⟨hj, by simpa using e⟩) hf
theorem Cert.at (h : Cert P N env l fs mk ord) {a : Act} (ha : Rep N env a) : ∀ i ∈ ord, fs.contains (i + 2000) = true → ∃ oi, l[i]? = some oi ∧ oi.guard = Option.none ∧ Makes P oi a.eval (mk i) := fun i hi hf => by
  obtain ⟨oi, h1, h2, h3⟩ := h i hi hf
  exact ⟨oi, h1, h2, h3 a ha⟩
theorem ln_nil (h : Ex N w0 Q .normal env L) : Ln P N w0 l fs mk Q [] env L Lq := fun a ha w hw => h a w ha hw
theorem ln_quiet {v : Value} (ho : l[k]? = some o) (hf : fs.contains k = false) (hd : dstOk N o.dst = true) (h1 : ∀ a, Rep N env a → Region.wanted o (yielded l.toArray a.tmps) = true → quietR P o a (Mem w0 Lq) v) (h2 : ∀ a, Rep N env a → Region.wanted o (yielded l.toArray a.tmps) = false → v = undef)
    (hk : Ln P N w0 l fs mk Q ord (putE env o.dst v) L Lq) (hf2 : fs.contains (k + 1000) = false := by rfl) : Ln P N w0 l fs mk Q (k :: ord) env L Lq := fun a ha =>
  ⟨o, ho, by
    rw [if_neg (by rw [hf]; exact Bool.false_ne_true)]
    exact ⟨v, by rw [if_neg (by rw [hf2]; exact Bool.false_ne_true)]; exact h1 a ha, h2 a ha, hk _ (ha.put hd v)⟩⟩
theorem lt_y {v : Value} (ho : l[k]? = some o) (h : Yl P N w0 env L o v) (hk : Ln P N w0 l fs mk Q ord (putE env o.dst v) L Lq) (hg : o.guard = none := by rfl) (hd : dstOk N o.dst = true := by rfl) (hf : fs.contains k = false := by rfl) (hf2 : fs.contains (k + 1000) = true := by rfl) : Ln P N w0 l fs mk Q (k :: ord) env L Lq := fun a ha =>
  ⟨o, ho, by
    rw [if_neg (by rw [hf]; exact Bool.false_ne_true)]
    exact ⟨v, fun _ => by rw [if_pos hf2]; exact h a ha, (fun hw => by rw [wanted_none hg] at hw; cases hw), hk _ (ha.put hd v)⟩⟩
theorem lt_r {v : Value} (ho : l[k]? = some o) (h : Ry P N w0 env L o v) (hk : Ln P N w0 l fs mk Q ord (putE env o.dst v) L Lq) (hg : o.guard = none := by rfl) (hd : dstOk N o.dst = true := by rfl) (hf : fs.contains k = false := by rfl) (hf2 : fs.contains (k + 1000) = true := by rfl) : Ln P N w0 l fs mk Q (k :: ord) env L Lq := lt_y ho h.yl hk hg hd hf hf2
theorem ln_y {v : Value} (ho : l[k]? = some o) (h : Yl P N w0 env Lq o v) (hk : Ln P N w0 l fs mk Q ord (putE env o.dst v) L Lq) (hg : o.guard = none := by rfl) (hd : dstOk N o.dst = true := by rfl) (hf : fs.contains k = false := by rfl) (hf2 : fs.contains (k + 1000) = false := by rfl) : Ln P N w0 l fs mk Q (k :: ord) env L Lq :=
  ln_quiet (hf2 := hf2) ho hf hd (fun a ha _ => h a ha) (fun a ha hw => by rw [wanted_none hg] at hw; cases hw) hk
theorem ln_r {v : Value} (ho : l[k]? = some o) (h : Ry P N w0 env Lq o v) (hk : Ln P N w0 l fs mk Q ord (putE env o.dst v) L Lq) (hg : o.guard = none := by rfl) (hd : dstOk N o.dst = true := by rfl) (hf : fs.contains k = false := by rfl) (hf2 : fs.contains (k + 1000) = false := by rfl) : Ln P N w0 l fs mk Q (k :: ord) env L Lq := ln_y ho h.yl hk hg hd hf hf2
theorem ln_gt {v : Value} {j t : Nat} {g : Bool} (ho : l[k]? = some o) (hg : o.guard = some (j, true)) (hj : (l[j]?).bind (·.dst) = some t) (hv : look env t = some (.bool g)) (h : g = true → Yl P N w0 env Lq o v)
    (hk : Ln P N w0 l fs mk Q ord (putE env o.dst (if g = true then v else undef)) L Lq) (hd : dstOk N o.dst = true := by rfl) (hf : fs.contains k = false := by rfl) (hf2 : fs.contains (k + 1000) = false := by rfl) : Ln P N w0 l fs mk Q (k :: ord) env L Lq :=
  ln_quiet (hf2 := hf2) ho hf hd (fun a ha hw => by
    rw [wanted_some ha hg hj hv] at hw
    cases g
    · cases hw
    · exact h rfl a ha) (fun a ha hw => by
    rw [wanted_some ha hg hj hv] at hw
    cases g
    · rfl
    · cases hw) hk
theorem ln_gf {v : Value} {j t : Nat} {g : Bool} (ho : l[k]? = some o) (hg : o.guard = some (j, false)) (hj : (l[j]?).bind (·.dst) = some t) (hv : look env t = some (.bool g)) (h : (!g) = true → Yl P N w0 env Lq o v)
    (hk : Ln P N w0 l fs mk Q ord (putE env o.dst (if (!g) = true then v else undef)) L Lq) (hd : dstOk N o.dst = true := by rfl) (hf : fs.contains k = false := by rfl) (hf2 : fs.contains (k + 1000) = false := by rfl) : Ln P N w0 l fs mk Q (k :: ord) env L Lq :=
  ln_quiet (hf2 := hf2) ho hf hd (fun a ha hw => by
    rw [wanted_some ha hg hj hv] at hw
    cases g
    · exact h rfl a ha
    · cases hw) (fun a ha hw => by
    rw [wanted_some ha hg hj hv] at hw
    cases g
    · cases hw
    · rfl) hk
theorem ln_nt {v : Value} {j t : Nat} {c g : Bool} (ho : l[k]? = some o) (hg : o.guard = some (j, true)) (hj : (l[j]?).bind (·.dst) = some t) (hv : look env t = some (if c = true then .bool g else undef)) (h : (c && g) = true → Yl P N w0 env Lq o v)
    (hk : Ln P N w0 l fs mk Q ord (putE env o.dst (if (c && g) = true then v else undef)) L Lq) (hd : dstOk N o.dst = true := by rfl) (hf : fs.contains k = false := by rfl) (hf2 : fs.contains (k + 1000) = false := by rfl) : Ln P N w0 l fs mk Q (k :: ord) env L Lq :=
  ln_quiet (hf2 := hf2) ho hf hd (fun a ha hw => by
    rw [wanted_nest ha hg hj hv] at hw
    cases c <;> cases g <;> first | exact h rfl a ha | cases hw) (fun a ha hw => by
    rw [wanted_nest ha hg hj hv] at hw
    cases c <;> cases g <;> first | rfl | cases hw) hk
theorem ln_nf {v : Value} {j t : Nat} {c g : Bool} (ho : l[k]? = some o) (hg : o.guard = some (j, false)) (hj : (l[j]?).bind (·.dst) = some t) (hv : look env t = some (if c = true then .bool g else undef)) (h : (c && !g) = true → Yl P N w0 env Lq o v)
    (hk : Ln P N w0 l fs mk Q ord (putE env o.dst (if (c && !g) = true then v else undef)) L Lq) (hd : dstOk N o.dst = true := by rfl) (hf : fs.contains k = false := by rfl) (hf2 : fs.contains (k + 1000) = false := by rfl) : Ln P N w0 l fs mk Q (k :: ord) env L Lq :=
  ln_quiet (hf2 := hf2) ho hf hd (fun a ha hw => by
    rw [wanted_nest ha hg hj hv] at hw
    cases c <;> cases g <;> first | exact h rfl a ha | cases hw) (fun a ha hw => by
    rw [wanted_nest ha hg hj hv] at hw
    cases c <;> cases g <;> first | rfl | cases hw) hk
theorem ln_ty {v : Value} {j t : Nat} {b g : Bool} (ho : l[k]? = some o) (hg : o.guard = some (j, b)) (hj : (l[j]?).bind (·.dst) = some t) (hv : look env t = some (.bool g)) (ht : g = b) (h : Yl P N w0 env Lq o v)
    (hk : Ln P N w0 l fs mk Q ord (putE env o.dst v) L Lq) (hd : dstOk N o.dst = true := by rfl) (hf : fs.contains k = false := by rfl) (hf2 : fs.contains (k + 1000) = false := by rfl) : Ln P N w0 l fs mk Q (k :: ord) env L Lq :=
  ln_quiet (hf2 := hf2) ho hf hd (fun a ha _ => h a ha) (fun a ha hw => by
    rw [wanted_some ha hg hj hv, ht, beq_self_eq_true] at hw; cases hw) hk
theorem ln_st' (ho : l[k]? = some o) (h : Stp P N w0 env L o fun v L' => ∃ Lq', (∀ w, Mem w0 L' w → Mem w0 Lq' w) ∧ (∀ w, Mem w0 Lq' w → Mem w0 Lq w) ∧ Ln P N w0 l fs mk Q ord (putE env o.dst v) L' Lq') (hg : o.guard = none := by rfl) (hd : dstOk N o.dst = true := by rfl) (hf : fs.contains k = true := by rfl) (hf3 : fs.contains (k + 2000) = false := by rfl) (hf4 : fs.contains (k + 4000) = false := by rfl) (hf5 : fs.contains (k + 5000) = false := by rfl) (hC : Cert P N env l fs mk ord := by exact Cert.none rfl) : Ln P N w0 l fs mk Q (k :: ord) env L Lq := fun a ha =>
  ⟨o, ho, by
    rw [if_pos hf, if_neg (by rw [hf3]; exact Bool.false_ne_true)]
    exact ⟨hC.at ha, wanted_none hg, fun w hw => upon_mono (fun v w' ⟨L', h1, Lq', h2, h3, h4⟩ => ⟨L', Lq', h1, h2, h3, (fun h => by rw [hf5] at h; cases h), h4 _ (ha.put hd v)⟩) (h a w ha hw), fun h => by rw [hf4] at h; cases h⟩⟩
theorem ln_stA (ho : l[k]? = some o) (h : Stp P N w0 env L o fun v L' => (∀ w, Mem w0 L' w → Mem w0 Lq w) ∧ (∀ w, Mem w0 L' w → Mem w0 L w) ∧ Ln P N w0 l fs mk Q ord (putE env o.dst v) L' Lq) (hg : o.guard = none := by rfl) (hd : dstOk N o.dst = true := by rfl) (hf : fs.contains k = true := by rfl) (hf3 : fs.contains (k + 2000) = false := by rfl) (hf4 : fs.contains (k + 4000) = false := by rfl) (hC : Cert P N env l fs mk ord := by exact Cert.none rfl) : Ln P N w0 l fs mk Q (k :: ord) env L Lq := fun a ha =>
  ⟨o, ho, by
    rw [if_pos hf, if_neg (by rw [hf3]; exact Bool.false_ne_true)]
    exact ⟨hC.at ha, wanted_none hg, fun w hw => upon_mono (fun v w' ⟨L', h1, h2, h3, h4⟩ => ⟨L', Lq, h1, h2, fun _ h => h, (fun _ => h3), h4 _ (ha.put hd v)⟩) (h a w ha hw), fun h => by rw [hf4] at h; cases h⟩⟩
theorem ln_stF (K : Value → List Ent → Prop) (ho : l[k]? = some o) (h : Stp P N w0 env L o K) (hF : ∀ e, Stp P N w0 env (e :: L) o fun v L' => ∃ L1, (∀ w, Mem w0 L' w → Mem w0 (e :: L1) w) ∧ K v L1) (hk : ∀ v L', K v L' → (∀ w, Mem w0 L' w → Mem w0 Lq w) ∧ Ln P N w0 l fs mk Q ord (putE env o.dst v) L' Lq) (hC : Cert P N env l fs mk ord) (hg : o.guard = none := by rfl) (hd : dstOk N o.dst = true := by rfl) (hf : fs.contains k = true := by rfl) (hf3 : fs.contains (k + 2000) = false := by rfl) (hf5 : fs.contains (k + 5000) = false := by rfl) : Ln P N w0 l fs mk Q (k :: ord) env L Lq := fun a ha =>
  ⟨o, ho, by
    rw [if_pos hf, if_neg (by rw [hf3]; exact Bool.false_ne_true)]
    exact ⟨hC.at ha, wanted_none hg, fun w hw => upon_mono (fun v w' ⟨L', h1, h2⟩ => ⟨L', Lq, h1, (hk v L' h2).1, fun _ h => h, (fun h => by rw [hf5] at h; cases h), (hk v L' h2).2 _ (ha.put hd v)⟩) (h a w ha hw), fun _ e w hw => upon_mono (fun v w' ⟨L', h1, L1, h2, h3⟩ => ⟨L1, Lq, h2 _ h1, (hk v L1 h3).1, fun _ h => h, (fun h => by rw [hf5] at h; cases h), (hk v L1 h3).2 _ (ha.put hd v)⟩) (hF e a w ha hw)⟩⟩
theorem ln_callF {X : Type} {val : X → Value} {L' : X → List Ent} {L2 : Ent → X → List Ent} {pr : X → Prop} {pre : Prop} {f : FuncId} {xs : List Operand} {ts : Array TypeId} {vs : List Value} {d : Option Tmp} {ty : TypeId} {ps : String} {af : Array Edge} [hf : IsFn P f] (ho : l[k]? = some ⟨d, .call { callee := .value (.func f), args := xs.toArray, argTypes := ts }, ty, ps, af, none⟩) (hx : evl env xs = some vs)
    [hc : FnC P f w0 L vs X val L' pr pre] [hcF : ∀ e, FnC P f w0 (e :: L) vs X val (L2 e) pr pre] (hp : pre) (hP : ∀ e x w, Mem w0 (L2 e x) w → Mem w0 (e :: L' x) w) (hC : Cert P N env l fs mk ord) (hk : ∀ x, pr x → (∀ w, Mem w0 (L' x) w → Mem w0 Lq w) ∧ Ln P N w0 l fs mk Q ord (putE env d (val x)) (L' x) Lq)
    (hd : dstOk N d = true := by rfl) (hf1 : fs.contains k = true := by rfl) (hf3 : fs.contains (k + 2000) = false := by rfl) (hf5 : fs.contains (k + 5000) = false := by rfl) : Ln P N w0 l fs mk Q (k :: ord) env L Lq :=
  ln_stF (fun v L1 => ∃ x, v = val x ∧ L1 = L' x ∧ pr x) ho (st_callC hx hp fun x hpx => ⟨x, rfl, rfl, hpx⟩) (fun e => st_mono (st_callC (K := fun v L1 => ∃ x, v = val x ∧ L1 = L2 e x ∧ pr x) hx hp fun x hpx => ⟨x, rfl, rfl, hpx⟩) fun v L1 ⟨x, h1, h2, h3⟩ => ⟨L1, fun _ h => h, L' x, fun w hw => hP e x w (by rw [← h2]; exact hw), x, h1, rfl, h3⟩)
    (fun v L1 ⟨x, h1, h2, h3⟩ => by subst h1; subst h2; exact hk x h3) hC rfl hd hf1 hf3 hf5
theorem ln_mk {m : Mkr} (ho : l[k]? = some o) (hm : mk k = m) (h : ∀ a, Rep N env a → Makes P o a.eval m) (hC : Cert P N env l fs mk ord) (hk : ∀ x : m.X, Ln P N w0 l fs mk Q ord (putE env o.dst (m.v x)) (m.e x :: L) Lq) (hg : o.guard = none := by rfl) (hd : dstOk N o.dst = true := by rfl) (hf : fs.contains k = true := by rfl) (hf2 : fs.contains (k + 2000) = true := by rfl) : Ln P N w0 l fs mk Q (k :: ord) env L Lq := fun a ha => by
  subst hm
  refine ⟨o, ho, ?_⟩
  rw [if_pos hf, if_pos hf2]
  exact ⟨hC.at ha, hg, h a ha, fun x => hk x _ (ha.put hd _)⟩
theorem ln_stT {j t : Nat} {b g : Bool} (ho : l[k]? = some o) (hg : o.guard = some (j, b)) (hj : (l[j]?).bind (·.dst) = some t) (hv : look env t = some (.bool g)) (ht : g = b) (h : Stp P N w0 env L o fun v L' => (∀ w, Mem w0 L' w → Mem w0 Lq w) ∧ Ln P N w0 l fs mk Q ord (putE env o.dst v) L' L') (hd : dstOk N o.dst = true := by rfl) (hf : fs.contains k = true := by rfl) (hf3 : fs.contains (k + 2000) = false := by rfl) (hf4 : fs.contains (k + 4000) = false := by rfl) (hf5 : fs.contains (k + 5000) = false := by rfl) (hC : Cert P N env l fs mk ord := by exact Cert.none rfl) : Ln P N w0 l fs mk Q (k :: ord) env L Lq := fun a ha =>
  ⟨o, ho, by
    rw [if_pos hf, if_neg (by rw [hf3]; exact Bool.false_ne_true)]
    exact ⟨hC.at ha, by rw [wanted_some ha hg hj hv, ht]; simp, fun w hw => upon_mono (fun v w' ⟨L', h1, h2, h4⟩ => ⟨L', L', h1, fun _ h => h, h2, (fun h => by rw [hf5] at h; cases h), h4 _ (ha.put hd v)⟩) (h a w ha hw), fun h => by rw [hf4] at h; cases h⟩⟩
theorem ln_st (ho : l[k]? = some o) (h : Stp P N w0 env L o fun v L' => (∀ w, Mem w0 L' w → Mem w0 Lq w) ∧ Ln P N w0 l fs mk Q ord (putE env o.dst v) L' Lq) (hg : o.guard = none := by rfl) (hd : dstOk N o.dst = true := by rfl) (hf : fs.contains k = true := by rfl) (hf3 : fs.contains (k + 2000) = false := by rfl) (hf4 : fs.contains (k + 4000) = false := by rfl) (hf5 : fs.contains (k + 5000) = false := by rfl) (hC : Cert P N env l fs mk ord := by exact Cert.none rfl) : Ln P N w0 l fs mk Q (k :: ord) env L Lq :=
  ln_st' (hf3 := hf3) (hf4 := hf4) (hf5 := hf5) (hC := hC) ho (st_mono h fun v L' ⟨h1, h2⟩ => ⟨L', fun _ h => h, Lq, h1, fun _ h => h, h2⟩) hg hd hf
def mkL : List (Nat × Mkr) → Nat → Mkr
  | [], _ => ⟨Unit, fun _ => undef, fun _ => .emp⟩
  | (i, m) :: r, k => match Nat.beq i k with
    | true => m
    | false => mkL r k
@[reducible] def alM (P : Program) (t : TypeId) {z : Value} [_hz : ZeroT P t z] : Mkr := ⟨Nat, fun b => .pointer (some ⟨b, 0, none⟩), fun b => blk b z.cells t⟩
theorem makes_al {t : TypeId} {z : Value} [hz : ZeroT P t z] {d : Option Tmp} {ty : TypeId} {ps : String} {af : Array Edge} {gd : Option (Nat × Bool)} : ∀ a, Rep N env a → Makes P ⟨d, .alloc t, ty, ps, af, gd⟩ a.eval (alM P t) := fun a _ w0 w L hw => by
  refine ⟨w.heap.size, w.alloc (.cells z.cells t), ?_, hw.alloc z.cells t⟩
  simp only [execOp, Instr.alloc, newVar, newRow, Sem.run_bind, run_zeroValue' w hz, newObj, Sem.run, Result.andThen, Sem.run_pure]; rfl
@[reducible] def bsM {α : Type} (enc : α → Array Value) (c n : Nat) (xs : List α) : Mkr := ⟨Nat, fun b => Sv.val ⟨false, b, 0, n, n, none⟩, fun b => own enc c ⟨false, b, 0, n, n, none⟩ xs⟩
theorem makes_bs {α : Type} {enc : α → Array Value} {c : Nat} {t e : TypeId} {by' n : Nat} {d : Option Tmp} {ty : TypeId} {ps : String} {af : Array Edge} {gd : Option (Nat × Bool)} [ht : SlT P t e c by'] [he : Enc enc c] {ops : List (Nat × Operand)} {vals : List Value} (xs : List α) (hx : evp env ops = some (idx vals 0)) (hv : vals.map Value.cells = xs.map enc) (hn : xs.length = n) (hc : 0 < n * c) (h24 : n * c ≤ 16777216) :
    ∀ a, Rep N env a → Makes P ⟨d, .buildSlice t n ops.toArray, ty, ps, af, gd⟩ a.eval (bsM enc c n xs) := fun a ha w0 w L hw => by
  subst hn
  have e1 : (ops.toArray.map fun (p : Nat × Operand) => match p with | (i, x) => (i, a.eval x)) = (idx vals 0).toArray := by
    rw [← ha.evp hx]; simp
  refine ⟨w.heap.size, _, ?_, hw.call (mem_new (enc := enc) (c := c) (xs := xs) (cs := (flatR enc xs).toArray) (e := e) rfl xs.length xs.length rfl (Nat.le_refl _) (len24 hc h24) (by simp [flatR_length]) fun i x hx j hj => by rw [← flatR_get (enc := enc) xs i x hx j hj]; simp)⟩
  simp only [execOp, e1, Sem.run_bind, run_buildSlice ht hv hc h24 w, Result.andThen, Sem.run_pure]; rfl
@[reducible] def sbM (xs : List UInt8) : Mkr := ⟨Sv, fun s => s.val, fun s => own benc 1 s xs⟩
theorem makes_sb {s t e : TypeId} {x : Operand} {d : Option Tmp} {ty : TypeId} {ps : String} {af : Array Edge} {gd : Option (Nat × Bool)} {xs : List UInt8} (hs : P.underlying s = some .string) (hd : P.underlying t = some (.slice e)) (he : P.underlying e = some (.int .u8)) (hx : ev env x = some (.string ⟨xs.toArray⟩)) (hl : xs.length ≤ 140737488355328) :
    ∀ a, Rep N env a → Makes P ⟨d, .convert s t x, ty, ps, af, gd⟩ a.eval (sbM xs) := fun a ha w0 w L hw => by
  obtain ⟨sv, w', h1, h2⟩ := run_strb hs hd he xs hl w
  exact ⟨sv, w', by simp only [execOp, ha.ev hx, Sem.run_bind, h1, Result.andThen, Sem.run_pure], hw.call h2⟩
theorem cw_linE {id : Nat} [Tame Q] (fs : List Nat) (A : List (List Nat)) (ord : List Nat) (Lq : List Ent) (mk : List (Nat × Mkr)) (hck : (fs.all fun j => decide (j < 2000) || decide (4000 ≤ j) || fs.contains (j - 2000)) = true) (hsub : ∀ w, Mem w0 L w → Mem w0 Lq w) (hm : P.follows .mixedOrders = true) (hB : linB2 l fs A ord = true) (h : Ln P N w0 l fs (mkL mk) Q ord env L Lq) (hlt : l.length ≤ 1000 := by decide) (hnd : noDefer l = true := by kernel_rfl) : Cw P N w0 Q (.region id l.toArray true) env L := fun a _ ha hw => by
  refine wp_region_lin2 A ord hnd hm hB hw.drew' hsub (fun k hkl hk => ?_) (h a ha)
  cases h2 : fs.contains (k + 2000) with
  | false => rfl
  | true =>
    have := List.all_eq_true.1 hck (k + 2000) (by simpa using h2)
    rw [Bool.or_eq_true, Bool.or_eq_true, decide_eq_true_eq, decide_eq_true_eq] at this
    rcases this with (h | h) | h
    · omega
    · omega
    · rw [Nat.add_sub_cancel, hk] at h; cases h
theorem cw_lin {id : Nat} [Tame Q] (fs : List Nat) (A : List (List Nat)) (ord : List Nat) (Lq : List Ent) (hsub : ∀ w, Mem w0 L w → Mem w0 Lq w) (hm : P.follows .mixedOrders = true) (hB : linB l fs A ord = true) (h : Ln P N w0 l fs (mkL []) Q ord env L Lq) (hnd : noDefer l = true := by kernel_rfl) : Cw P N w0 Q (.region id l.toArray true) env L := fun a _ ha hw =>
  wp_region_lin A ord hnd hm hB hw.drew' hsub (h a ha)
end
end Go.Eng

/- A trie's nodes, and the ways to them. No program in sight. -/
namespace Go.Kb

structure Slt where
  len : Int
  hop : UInt16
  deriving DecidableEq
def Slt.no : Slt := ⟨0, 0⟩
structure Nd where
  slots : List Slt
  nexts : List Int
  hs : slots.length = 16
  hn : nexts.length = 16
  deriving DecidableEq
def Nd.sl (n : Nd) (b : Nat) : Slt := n.slots.getD b Slt.no
def Nd.nx (n : Nd) (b : Nat) : Int := n.nexts.getD b 0
def Nd.mk' (f : Nat → Slt) (g : Nat → Int) : Nd := ⟨(List.range 16).map f, (List.range 16).map g, by simp, by simp⟩
def Nd.zero : Nd := Nd.mk' (fun _ => Slt.no) (fun _ => 0)
def Nd.setSl (n : Nd) (b : Nat) (s : Slt) : Nd := ⟨n.slots.set b s, n.nexts, by simp [n.hs], n.hn⟩
def Nd.setNx (n : Nd) (b : Nat) (x : Int) : Nd := ⟨n.slots, n.nexts.set b x, n.hs, by simp [n.hn]⟩
theorem Nd.sl_mk' {f : Nat → Slt} {g : Nat → Int} {b : Nat} (h : b < 16) : (Nd.mk' f g).sl b = f b := by simp [Nd.sl, Nd.mk', h]
theorem Nd.nx_mk' {f : Nat → Slt} {g : Nat → Int} {b : Nat} (h : b < 16) : (Nd.mk' f g).nx b = g b := by simp [Nd.nx, Nd.mk', h]
theorem Nd.sl_out {n : Nd} {b : Nat} (h : 16 ≤ b) : n.sl b = Slt.no := by
  have := n.hs
  rw [Nd.sl, List.getD_eq_getElem?_getD, List.getElem?_eq_none (by omega)]; rfl
theorem Nd.nx_out {n : Nd} {b : Nat} (h : 16 ≤ b) : n.nx b = 0 := by
  have := n.hn
  rw [Nd.nx, List.getD_eq_getElem?_getD, List.getElem?_eq_none (by omega)]; rfl
theorem Nd.sl_zero (b : Nat) : Nd.zero.sl b = Slt.no := by
  rcases Nat.lt_or_ge b 16 with h | h
  · exact Nd.sl_mk' h
  · exact Nd.sl_out h
theorem Nd.nx_zero (b : Nat) : Nd.zero.nx b = 0 := by
  rcases Nat.lt_or_ge b 16 with h | h
  · exact Nd.nx_mk' h
  · exact Nd.nx_out h
theorem Nd.sl_set {n : Nd} {b c : Nat} {s : Slt} (h : b < 16) : (n.setSl b s).sl c = if b = c then s else n.sl c := by
  have := n.hs
  simp only [Nd.sl, Nd.setSl, List.getD_eq_getElem?_getD, List.getElem?_set]
  split
  · rename_i e; subst e; rw [if_pos (by omega)]; rfl
  · rfl
theorem Nd.nx_set {n : Nd} {b c : Nat} {x : Int} (h : b < 16) : (n.setNx b x).nx c = if b = c then x else n.nx c := by
  have := n.hn
  simp only [Nd.nx, Nd.setNx, List.getD_eq_getElem?_getD, List.getElem?_set]
  split
  · rename_i e; subst e; rw [if_pos (by omega)]; rfl
  · rfl
@[simp] theorem Nd.nx_setSl {n : Nd} {b c : Nat} {s : Slt} : (n.setSl b s).nx c = n.nx c := rfl
@[simp] theorem Nd.sl_setNx {n : Nd} {b c : Nat} {x : Int} : (n.setNx b x).sl c = n.sl c := rfl
theorem Nd.ext' {m n : Nd} (h1 : ∀ b, b < 16 → m.sl b = n.sl b) (h2 : ∀ b, b < 16 → m.nx b = n.nx b) : m = n := by
  obtain ⟨a, b, ha, hb⟩ := m
  obtain ⟨c, d, hc, hd⟩ := n
  have e1 : a = c := List.ext_getElem? fun i => by
    rcases Nat.lt_or_ge i 16 with hi | hi
    · have := h1 i hi
      simp only [Nd.sl, List.getD_eq_getElem?_getD] at this
      rw [List.getElem?_eq_getElem (by omega), List.getElem?_eq_getElem (by omega)] at this ⊢
      simpa using this
    · rw [List.getElem?_eq_none (by omega), List.getElem?_eq_none (by omega)]
  have e2 : b = d := List.ext_getElem? fun i => by
    rcases Nat.lt_or_ge i 16 with hi | hi
    · have := h2 i hi
      simp only [Nd.nx, List.getD_eq_getElem?_getD] at this
      rw [List.getElem?_eq_getElem (by omega), List.getElem?_eq_getElem (by omega)] at this ⊢
      simpa using this
    · rw [List.getElem?_eq_none (by omega), List.getElem?_eq_none (by omega)]
  subst e1; subst e2; rfl

/-! Four bits of a key. -/
def rset (k : Key) (n b : Nat) : Key := if n % 2 = 0 then kset k (n / 2) (16 * b % 256) else kset k (n / 2) ((kbyte k (n / 2) + b) % 256)

def lastN (p : Pfx) : Nat := ((p.len - 1) / 4).toNat
structure Wy where
  steps : Nat
  key : Key
  deriving DecidableEq
def wayAt (k : Key) (s : Nat) : Wy := ⟨s, kcut k ((4 * s : Nat) : Int)⟩
def root : Wy := ⟨0, 0#128⟩
theorem wayAt_zero (k : Key) : wayAt k 0 = root := by rw [wayAt, root, kcut_none _ _ (by decide)]
def child (w : Wy) (b : Nat) : Wy := ⟨w.steps + 1, rset w.key w.steps b⟩
def addW (W : List Wy) (w : Wy) : List Wy := if w ∈ W then W else W ++ [w]
def addTo (W : List Wy) (p : Pfx) (n : Nat) : List Wy := (List.range n).foldl (fun W i => addW W (wayAt p.key (i + 1))) W
def addWs (W : List Wy) (r : Rt) (bits : Int) : List Wy := if r.p.bits = bits then addTo W r.p (lastN r.p) else W
def waysF (bits : Int) (t : List Rt) : List Wy := t.foldl (fun W r => addWs W r bits) [root]

def hit (r : Rt) (bits : Int) (w : Wy) (b : Nat) : Bool := decide (r.p.bits = bits) && decide (lastN r.p = w.steps) && pfits r.p (rset w.key w.steps b)
def slotUp (bits : Int) (w : Wy) (b : Nat) (s : Slt) (r : Rt) : Slt := if hit r bits w b = true ∧ s.len ≤ r.p.len then ⟨r.p.len + 1, r.hop⟩ else s
def slotF (bits : Int) (R : List Rt) (w : Wy) (b : Nat) : Slt := R.foldl (slotUp bits w b) Slt.no
def nextF (W : List Wy) (w : Wy) (b : Nat) : Int := if child w b ∈ W then (W.idxOf (child w b) : Nat) else 0
def nodeF (bits : Int) (W : List Wy) (R : List Rt) (w : Wy) : Nd := Nd.mk' (slotF bits R w) (nextF W w)
def nodesF (bits : Int) (t : List Rt) : List Nd := (waysF bits t).map (nodeF bits (waysF bits t) t)

theorem addTo_zero (W : List Wy) (p : Pfx) : addTo W p 0 = W := rfl
theorem addTo_succ (W : List Wy) (p : Pfx) (n : Nat) : addTo W p (n + 1) = addW (addTo W p n) (wayAt p.key (n + 1)) := by simp [addTo, List.range_succ]
theorem ways_nil (bits : Int) : waysF bits [] = [root] := rfl
theorem ways_snoc (bits : Int) (t : List Rt) (r : Rt) : waysF bits (t ++ [r]) = addWs (waysF bits t) r bits := by simp [waysF]
theorem slotF_snoc (bits : Int) (R : List Rt) (r : Rt) (w : Wy) (b : Nat) : slotF bits (R ++ [r]) w b = slotUp bits w b (slotF bits R w b) r := by simp [slotF]

/-! Bits of a key whose four bits are set. -/
theorem rset_msb {k : Key} {n b : Nat} (hn : n < 32) (hb : b < 16) (hk : kcut k ((4 * n : Nat) : Int) = k) (i : Nat) (hi : i < 128) :
    (rset k n b).getMsbD i = if i < 4 * n then k.getMsbD i else if i < 4 * n + 4 then b.testBit (4 * n + 3 - i) else false := by
  have hz : ∀ j, j < 128 → 4 * n ≤ j → k.getMsbD j = false := fun j hj h => (kcut_self_iff k _).1 hk j hj (by omega)
  have hkb : ∀ (x : Nat), x < 256 → (kset k (n / 2) x).getMsbD i = if i / 8 = n / 2 then x.testBit (7 - i % 8) else k.getMsbD i := fun x hx => by
    rw [msb_kbyte _ i hi, kbyte_kset k _ x _ (by omega) hx]
    split
    · rfl
    · rw [msb_kbyte k i hi]
  unfold rset
  split
  · rename_i he
    rw [hkb _ (by omega)]
    by_cases h1 : i / 8 = n / 2
    · rw [if_pos h1, if_neg (by omega)]
      have e : 16 * b % 256 = b * 2 ^ 4 := by omega
      rw [e, Nat.testBit_mul_two_pow]
      by_cases h2 : i < 4 * n + 4
      · rw [if_pos h2, decide_eq_true (by omega), Bool.true_and]; congr 1; omega
      · rw [if_neg h2, decide_eq_false (by omega), Bool.false_and]
    · rw [if_neg h1]
      by_cases h2 : i < 4 * n
      · rw [if_pos h2]
      · rw [if_neg h2, if_neg (by omega)]; exact hz i hi (by omega)
  · rename_i ho
    have hlow : kbyte k (n / 2) % 16 = 0 := by
      have : ∀ j, (kbyte k (n / 2) % 2 ^ 4).testBit j = false := fun j => by
        rw [Nat.testBit_mod_two_pow]
        by_cases hj : j < 4
        · have := msb_kbyte k (8 * (n / 2) + (7 - j)) (by omega)
          rw [show (8 * (n / 2) + (7 - j)) / 8 = n / 2 by omega, show 7 - (8 * (n / 2) + (7 - j)) % 8 = j by omega, hz _ (by omega) (by omega)] at this
          simp [← this]
        · simp [hj]
      have := Nat.eq_of_testBit_eq (x := kbyte k (n / 2) % 2 ^ 4) (y := 0) (fun j => by rw [this j]; simp)
      simpa using this
    have hlt := kbyte_lt k (n / 2)
    have e : (kbyte k (n / 2) + b) % 256 = kbyte k (n / 2) ||| b := by
      obtain ⟨q, hq⟩ : ∃ q, kbyte k (n / 2) = 2 ^ 4 * q := ⟨kbyte k (n / 2) / 16, by omega⟩
      rw [hq, ← Nat.two_pow_add_eq_or_of_lt (i := 4) (by omega) q]; omega
    rw [hkb _ (by omega), e]
    by_cases h1 : i / 8 = n / 2
    · rw [if_pos h1, Nat.testBit_or]
      have hm := msb_kbyte k i hi
      rw [h1] at hm
      rw [← hm]
      by_cases h2 : i < 4 * n
      · rw [if_pos h2, Nat.testBit_lt_two_pow (x := b) (Nat.lt_of_lt_of_le (show b < 2 ^ 4 by omega) (Nat.pow_le_pow_right (by decide) (by omega)))]; simp
      · rw [if_neg h2, if_pos (by omega), hz i hi (by omega), Bool.false_or]; congr 1; omega
    · rw [if_neg h1]
      by_cases h2 : i < 4 * n
      · rw [if_pos h2]
      · rw [if_neg h2, if_neg (by omega)]; exact hz i hi (by omega)

def kst (k : Key) (n : Nat) : Nat := (kstep k n).toNat
theorem kst_lt (k : Key) (n : Nat) : kst k n < 16 := by
  unfold kst kstep
  have h1 := kbit_01 k (4 * n); have h2 := kbit_01 k (4 * n + 1); have h3 := kbit_01 k (4 * n + 2); have h4 := kbit_01 k (4 * n + 3)
  split <;> omega
theorem kst_eq (k : Key) (n : Nat) : kstep k n = (kst k n : Int) := by
  unfold kst kstep
  have h1 := kbit_01 k (4 * n); have h2 := kbit_01 k (4 * n + 1); have h3 := kbit_01 k (4 * n + 2); have h4 := kbit_01 k (4 * n + 3)
  split <;> omega
theorem kst_bit (k : Key) (n j : Nat) (hn : n < 32) (hj : j < 4) : (kst k n).testBit j = k.getMsbD (4 * n + 3 - j) := by
  have e := kst_eq k n
  rw [kstep, if_pos (by omega)] at e
  have b0 := kbit_nat k (4 * n); have b1 := kbit_nat k (4 * n + 1); have b2 := kbit_nat k (4 * n + 2); have b3 := kbit_nat k (4 * n + 3)
  simp only [Int.natCast_add, Int.natCast_mul, Int.cast_ofNat_Int] at b0 b1 b2 b3
  rw [b0, b1, b2, b3] at e
  have key : ∀ (a0 a1 a2 a3 : Bool) (x : Nat), (8 * (if a0 then 1 else 0) + 4 * (if a1 then 1 else 0) + 2 * (if a2 then 1 else 0) + (if a3 then 1 else 0) : Int) = (x : Int) → x.testBit 0 = a3 ∧ x.testBit 1 = a2 ∧ x.testBit 2 = a1 ∧ x.testBit 3 = a0 := by
    intro a0 a1 a2 a3 x hx
    have hx' : x = (8 * (if a0 then 1 else 0) + 4 * (if a1 then 1 else 0) + 2 * (if a2 then 1 else 0) + (if a3 then 1 else 0) : Nat) := by
      cases a0 <;> cases a1 <;> cases a2 <;> cases a3 <;> simp at hx ⊢ <;> omega
    subst hx'
    cases a0 <;> cases a1 <;> cases a2 <;> cases a3 <;> decide
  obtain ⟨h0, h1, h2, h3⟩ := key _ _ _ _ _ e
  match j, hj with
  | 0, _ => exact h0
  | 1, _ => exact h1
  | 2, _ => exact h2
  | 3, _ => exact h3
theorem nib_ext {x y : Nat} (hx : x < 16) (hy : y < 16) (h : ∀ j, j < 4 → x.testBit j = y.testBit j) : x = y := by
  refine Nat.eq_of_testBit_eq fun j => ?_
  rcases Nat.lt_or_ge j 4 with hj | hj
  · exact h j hj
  · have hp : 2 ^ 4 ≤ 2 ^ j := Nat.pow_le_pow_right (by decide) hj
    rw [Nat.testBit_lt_two_pow (Nat.lt_of_lt_of_le hx hp), Nat.testBit_lt_two_pow (Nat.lt_of_lt_of_le hy hp)]
theorem cut_nat_msb (k : Key) (n i : Nat) : (kcut k (n : Int)).getMsbD i = (decide (i < n) && k.getMsbD i) := by
  rw [kcut_msb]; congr 1; simp
section
variable {k : Key} {n b : Nat}
theorem rset_kst (hn : n < 32) (hb : b < 16) (hk : kcut k ((4 * n : Nat) : Int) = k) : kst (rset k n b) n = b :=
  nib_ext (kst_lt _ _) hb fun j hj => by
    rw [kst_bit _ _ _ hn hj, rset_msb hn hb hk _ (by omega), if_neg (by omega), if_pos (by omega)]; congr 1; omega
theorem rset_cut (hn : n < 32) (hb : b < 16) (hk : kcut k ((4 * n : Nat) : Int) = k) : kcut (rset k n b) ((4 * n : Nat) : Int) = k :=
  key_ext fun i hi => by
    have h2 := cut_nat_msb k (4 * n) i
    rw [hk] at h2
    rw [cut_nat_msb, rset_msb hn hb hk i hi]
    by_cases h : i < 4 * n
    · simp [h]
    · simp [h] at h2 ⊢; exact h2
theorem rset_full (hn : n < 32) (hb : b < 16) (hk : kcut k ((4 * n : Nat) : Int) = k) : kcut (rset k n b) ((4 * (n + 1) : Nat) : Int) = rset k n b :=
  key_ext fun i hi => by
    rw [cut_nat_msb, rset_msb hn hb hk i hi]
    by_cases h : i < 4 * (n + 1)
    · simp [h]
    · rw [if_neg (by omega), if_neg (by omega)]; simp
end
theorem cut_cut_nat (k : Key) (n m : Nat) : kcut (kcut k (n : Int)) (m : Int) = kcut k ((min n m : Nat) : Int) := by
  rw [kcut_cut]; congr 1; omega
theorem wayAt_cut (k : Key) (s : Nat) : kcut (wayAt k s).key ((4 * s : Nat) : Int) = (wayAt k s).key := by
  simp only [wayAt]; rw [cut_cut_nat, Nat.min_self]
theorem child_wayAt (k : Key) (n : Nat) (hn : n < 32) : child (wayAt k n) (kst k n) = wayAt k (n + 1) := by
  have e : rset (kcut k ((4 * n : Nat) : Int)) n (kst k n) = kcut k ((4 * (n + 1) : Nat) : Int) := key_ext fun i hi => by
    have hm := rset_msb (k := kcut k ((4 * n : Nat) : Int)) hn (kst_lt k n) (wayAt_cut k n) i hi
    rw [hm, cut_nat_msb, cut_nat_msb]
    by_cases h : i < 4 * n
    · simp [h, show i < 4 * (n + 1) by omega]
    · rw [if_neg h]
      by_cases h2 : i < 4 * n + 4
      · rw [if_pos h2, kst_bit _ _ _ hn (by omega), decide_eq_true (show i < 4 * (n + 1) by omega), Bool.true_and]; congr 1; omega
      · rw [if_neg h2, decide_eq_false (show ¬ i < 4 * (n + 1) by omega), Bool.false_and]
  simp only [child, wayAt, e]
def Wy.ok (w : Wy) : Prop := w.steps < 32 ∧ kcut w.key ((4 * w.steps : Nat) : Int) = w.key
theorem child_inj {w v : Wy} {b c : Nat} (hw : w.ok) (hv : v.ok) (hb : b < 16) (hc : c < 16) (e : child w b = child v c) : w = v ∧ b = c := by
  obtain ⟨ws, wk⟩ := w
  obtain ⟨vs, vk⟩ := v
  simp only [child, Wy.mk.injEq] at e
  obtain ⟨e1, e2⟩ := e
  have e3 : ws = vs := by omega
  subst e3
  have h1 := rset_cut hw.1 hb hw.2
  have h2 := rset_kst hw.1 hb hw.2
  simp only at h1 h2
  rw [e2, rset_kst hv.1 hc hv.2] at h2
  rw [e2, rset_cut hv.1 hc hv.2] at h1
  have h1' : vk = wk := h1
  exact ⟨by rw [h1'], h2.symm⟩
theorem wayAt_ok (k : Key) (s : Nat) (h : s < 32) : (wayAt k s).ok := ⟨h, wayAt_cut k s⟩
theorem wayAt_up (k : Key) (s n : Nat) (h : s ≤ n) : wayAt (wayAt k n).key s = wayAt k s := by
  simp only [wayAt]; rw [cut_cut_nat, Nat.min_eq_right (by omega)]
theorem root_ok : root.ok := ⟨by decide, by rw [root]; exact kcut_none _ _ (by decide)⟩

/-! Ways put together. -/
theorem addW_mem {W : List Wy} {w v : Wy} : v ∈ addW W w ↔ v ∈ W ∨ v = w := by
  unfold addW; split
  · rename_i h; exact ⟨.inl, fun | .inl h => h | .inr e => e ▸ h⟩
  · simp
theorem addW_nodup {W : List Wy} {w : Wy} (h : W.Nodup) : (addW W w).Nodup := by
  unfold addW; split
  · exact h
  · rename_i hw
    rw [List.nodup_append]
    exact ⟨h, by simp, fun a ha b hb => by simp at hb; subst hb; intro e; subst e; exact hw ha⟩
theorem addW_pre {W : List Wy} {w : Wy} : W <+: addW W w := by
  unfold addW; split
  · exact List.prefix_rfl
  · exact List.prefix_append _ _
theorem addTo_mem {W : List Wy} {p : Pfx} {v : Wy} : ∀ {n : Nat}, v ∈ addTo W p n ↔ v ∈ W ∨ ∃ s, 1 ≤ s ∧ s ≤ n ∧ v = wayAt p.key s
  | 0 => by simp [addTo_zero]; omega
  | n + 1 => by
    rw [addTo_succ, addW_mem, addTo_mem (n := n)]
    constructor
    · rintro ((h | ⟨s, h1, h2, h3⟩) | h)
      · exact .inl h
      · exact .inr ⟨s, h1, by omega, h3⟩
      · exact .inr ⟨n + 1, by omega, by omega, h⟩
    · rintro (h | ⟨s, h1, h2, h3⟩)
      · exact .inl (.inl h)
      · rcases Nat.lt_or_ge n s with h4 | h4
        · obtain rfl : s = n + 1 := by omega
          exact .inr h3
        · exact .inl (.inr ⟨s, h1, h4, h3⟩)
theorem addTo_nodup {W : List Wy} {p : Pfx} (h : W.Nodup) : ∀ n, (addTo W p n).Nodup
  | 0 => h
  | n + 1 => by rw [addTo_succ]; exact addW_nodup (addTo_nodup h n)
theorem addTo_pre {W : List Wy} {p : Pfx} : ∀ n, W <+: addTo W p n
  | 0 => List.prefix_rfl
  | n + 1 => by rw [addTo_succ]; exact (addTo_pre n).trans addW_pre
theorem addTo_le {W : List Wy} {p : Pfx} {n m : Nat} (h : n ≤ m) : addTo W p n <+: addTo W p m := by
  induction m with
  | zero => obtain rfl : n = 0 := by omega
            exact List.prefix_rfl
  | succ m ih =>
    rcases Nat.lt_or_ge m n with h' | h'
    · obtain rfl : n = m + 1 := by omega
      exact List.prefix_rfl
    · rw [addTo_succ]; exact (ih h').trans addW_pre
theorem addWs_pre {W : List Wy} {r : Rt} {bits : Int} : W <+: addWs W r bits := by
  unfold addWs; split
  · exact addTo_pre _
  · exact List.prefix_rfl
structure WOk (W : List Wy) : Prop where
  nodup : W.Nodup
  root : W[0]? = some root
  ok : ∀ w ∈ W, w.ok
  up : ∀ w ∈ W, ∀ s, s ≤ w.steps → wayAt w.key s ∈ W
  ord : ∀ (i : Nat) (w : Wy), W[i]? = some w → ∀ s, s < w.steps → ∃ j, j < i ∧ W[j]? = some (wayAt w.key s)
theorem WOk.ne {W : List Wy} (h : WOk W) : 0 < W.length := by
  have := h.root
  rcases Nat.eq_zero_or_pos W.length with e | e
  · rw [List.getElem?_eq_none (by omega)] at this; simp at this
  · exact e
theorem WOk.one : WOk [Kb.root] := ⟨by simp, rfl, fun w hw => by simp at hw; subst hw; exact root_ok, fun w hw s hs => by
  simp at hw; subst hw
  have : s = 0 := by simpa [Kb.root] using hs
  subst this; rw [wayAt_zero]; simp, fun i w hi s hs => by
  have hw := List.mem_of_getElem? hi
  simp at hw; subst hw
  exact absurd hs (by simp [Kb.root])⟩
theorem WOk.add {W : List Wy} (h : WOk W) {p : Pfx} : ∀ {n : Nat}, n < 32 → WOk (addTo W p n)
  | 0, _ => h
  | n + 1, hn => by
    have ih := h.add (p := p) (n := n) (by omega)
    refine ⟨addTo_nodup h.nodup _, ?_, fun w hw => ?_, fun w hw s hs => ?_, fun i w hi s hs => ?_⟩
    · have := addTo_pre (W := W) (p := p) (n + 1)
      obtain ⟨t, ht⟩ := this
      rw [← ht, List.getElem?_append_left h.ne]; exact h.root
    · rcases addTo_mem.1 hw with hw | ⟨s, h1, h2, rfl⟩
      · exact h.ok w hw
      · exact wayAt_ok _ _ (by omega)
    · rcases addTo_mem.1 hw with hw | ⟨s', h1, h2, rfl⟩
      · exact addTo_mem.2 (.inl (h.up w hw s hs))
      · have hs' : s ≤ s' := hs
        rw [wayAt_up _ _ _ hs']
        rcases Nat.eq_zero_or_pos s with e | e
        · subst e; rw [wayAt_zero]; exact addTo_mem.2 (.inl (List.mem_of_getElem? h.root))
        · exact addTo_mem.2 (.inr ⟨s, e, by omega, rfl⟩)
    · rw [addTo_succ] at hi ⊢
      unfold addW at hi ⊢
      split at hi
      · rename_i hm; rw [if_pos hm]; exact ih.ord i w hi s hs
      · rename_i hm; rw [if_neg hm]
        rcases Nat.lt_or_ge i (addTo W p n).length with hlt | hge
        · rw [List.getElem?_append_left hlt] at hi
          obtain ⟨j, hj, e⟩ := ih.ord i w hi s hs
          exact ⟨j, hj, by rw [List.getElem?_append_left (by omega)]; exact e⟩
        · have hi2 := (List.getElem?_eq_some_iff.1 hi).1
          simp only [List.length_append, List.length_cons, List.length_nil] at hi2
          obtain rfl : i = (addTo W p n).length := by omega
          rw [List.getElem?_append_right (Nat.le_refl _), Nat.sub_self, List.getElem?_cons_zero] at hi
          obtain rfl := Option.some.inj hi
          have hs' : s < n + 1 := hs
          have hmem : wayAt p.key s ∈ addTo W p n := by
            rcases Nat.eq_zero_or_pos s with e | e
            · subst e; rw [wayAt_zero]; exact List.mem_of_getElem? ih.root
            · exact addTo_mem.2 (.inr ⟨s, e, by omega, rfl⟩)
          obtain ⟨j, hj⟩ := List.mem_iff_getElem?.1 hmem
          have hjl := (List.getElem?_eq_some_iff.1 hj).1
          exact ⟨j, hjl, by rw [wayAt_up _ _ _ (by omega), List.getElem?_append_left hjl]; exact hj⟩
theorem lastN_lt {p : Pfx} (h : pmay p = true) : lastN p < 32 := by
  obtain ⟨h1, h2, h3, _⟩ := (pmay_iff p).1 h
  unfold lastN; omega
theorem WOk.addWs {W : List Wy} (h : WOk W) {r : Rt} {bits : Int} (hr : pmay r.p = true) : WOk (addWs W r bits) := by
  unfold Kb.addWs; split
  · exact h.add (lastN_lt hr)
  · exact h
theorem ways_ok' {bits : Int} : ∀ {t : List Rt} {W : List Wy}, WOk W → (∀ r ∈ t, pmay r.p = true) → WOk (t.foldl (fun W r => Kb.addWs W r bits) W)
  | [], _, h, _ => h
  | r :: t, _, h, ha => ways_ok' (t := t) (h.addWs (ha r (by simp))) fun x hx => ha x (by simp [hx])
theorem ways_ok {bits : Int} {t : List Rt} (h : ∀ r ∈ t, pmay r.p = true) : WOk (waysF bits t) := ways_ok' WOk.one h
def Holds' (bits : Int) (W : List Wy) (R : List Rt) : Prop := ∀ r ∈ R, r.p.bits = bits → ∀ s, 1 ≤ s → s ≤ lastN r.p → wayAt r.p.key s ∈ W
end Go.Kb

/- A table becomes a trie, route by route. No program in sight. -/
namespace Go.Kb

theorem idx_get {W : List Wy} {w : Wy} (h : w ∈ W) : W[W.idxOf w]? = some w := by
  have hl := List.idxOf_lt_length_iff.2 h
  rw [List.getElem?_eq_getElem hl, List.getElem_idxOf]
theorem idx_lt {W : List Wy} {w : Wy} (h : w ∈ W) : W.idxOf w < W.length := List.idxOf_lt_length_iff.2 h
theorem get_idx {W : List Wy} (hn : W.Nodup) {i : Nat} {w : Wy} (h : W[i]? = some w) : W.idxOf w = i := by
  obtain ⟨hi, rfl⟩ := List.getElem?_eq_some_iff.1 h
  exact List.Nodup.idxOf_getElem hn i hi
theorem get_inj {W : List Wy} (hn : W.Nodup) {i j : Nat} {w : Wy} (h : W[i]? = some w) (h' : W[j]? = some w) : i = j := by
  rw [← get_idx hn h, get_idx hn h']

def nextO (ns : List Nd) (node four : Nat) : Bool := decide (0 < (ns.getD node Nd.zero).nx four) || decide (ns.length < 512)
def nextN (ns : List Nd) (node four : Nat) : Int := if 0 < (ns.getD node Nd.zero).nx four then (ns.getD node Nd.zero).nx four else if 512 ≤ ns.length then 0 else ns.length
def nextL (ns : List Nd) (node four : Nat) : List Nd := if 0 < (ns.getD node Nd.zero).nx four ∨ 512 ≤ ns.length then ns else (ns ++ [Nd.zero]).set node ((ns.getD node Nd.zero).setNx four ns.length)

def nodes (bits : Int) (W : List Wy) (R : List Rt) : List Nd := W.map (nodeF bits W R)
@[simp] theorem nodes_length (bits : Int) (W : List Wy) (R : List Rt) : (nodes bits W R).length = W.length := by simp [nodes]
theorem nodes_get {bits : Int} {W : List Wy} {R : List Rt} {i : Nat} {w : Wy} (h : W[i]? = some w) : (nodes bits W R)[i]? = some (nodeF bits W R w) := by simp [nodes, h]
theorem nodes_getD {bits : Int} {W : List Wy} {R : List Rt} {i : Nat} {w : Wy} (h : W[i]? = some w) : (nodes bits W R).getD i Nd.zero = nodeF bits W R w := by
  rw [List.getD_eq_getElem?_getD, nodes_get h]; rfl

theorem nextF_pos {W : List Wy} (hW : WOk W) {w : Wy} {b : Nat} : 0 < nextF W w b ↔ child w b ∈ W := by
  unfold nextF; split
  · rename_i h
    refine ⟨fun _ => h, fun _ => ?_⟩
    rcases Nat.eq_zero_or_pos (W.idxOf (child w b)) with e | e
    · have h1 := idx_get h
      rw [e, hW.root] at h1
      have := congrArg Wy.steps (Option.some.inj h1)
      simp [child, root] at this
    · exact_mod_cast e
  · rename_i h; exact ⟨fun h' => absurd h' (by decide), fun h' => absurd h' h⟩
theorem nextF_range {W : List Wy} {w : Wy} {b : Nat} (h0 : 0 < W.length) : 0 ≤ nextF W w b ∧ nextF W w b < W.length := by
  unfold nextF; split
  · rename_i h; have := idx_lt h; omega
  · omega

theorem slotF_none {bits : Int} {w : Wy} {b : Nat} : ∀ {R : List Rt}, (∀ r ∈ R, hit r bits w b = false) → slotF bits R w b = Slt.no := by
  intro R
  suffices h : ∀ (R : List Rt) (s : Slt), (∀ r ∈ R, hit r bits w b = false) → R.foldl (slotUp bits w b) s = s from fun hR => h R _ hR
  intro R
  induction R with
  | nil => intro s _; rfl
  | cons r R ih =>
    intro s hR
    rw [List.foldl_cons, slotUp, if_neg (by rw [hR r (by simp)]; simp)]
    exact ih s fun x hx => hR x (by simp [hx])
theorem hit_way {r : Rt} {bits : Int} {w : Wy} {b : Nat} (hw : w.ok) (hb : b < 16) (h : hit r bits w b = true) (hl : 0 < r.p.len) : w = wayAt r.p.key w.steps := by
  simp only [hit, Bool.and_eq_true, decide_eq_true_eq] at h
  obtain ⟨⟨h1, h2⟩, h3⟩ := h
  obtain ⟨_, _, h4⟩ := (pfits_iff _ _).1 h3
  have hle : 4 * (w.steps : Int) ≤ r.p.len := by rw [← h2]; unfold lastN; omega
  obtain ⟨s, k⟩ := w
  have hk := rset_cut hw.1 hb hw.2
  simp only at hk h4 hle ⊢
  rw [wayAt, ← h4, kcut_cut, show min r.p.len ((4 * s : Nat) : Int) = ((4 * s : Nat) : Int) by omega, hk]
theorem lastN_zero {p : Pfx} (h : p.len ≤ 0) : lastN p = 0 := by unfold lastN; omega
theorem slotF_new {bits : Int} {W : List Wy} {R : List Rt} (hh : Holds' bits W R) {w : Wy} {b : Nat} (hw : w.ok) (hb : b < 16) (hs : 0 < w.steps) (hn : w ∉ W) : slotF bits R w b = Slt.no :=
  slotF_none fun r hr => by
    cases he : hit r bits w b with
    | false => rfl
    | true =>
      have h' := he
      simp only [hit, Bool.and_eq_true, decide_eq_true_eq] at h'
      obtain ⟨⟨h1, h2⟩, h3⟩ := h'
      have hl : 0 < r.p.len := by
        rcases Int.lt_or_le 0 r.p.len with h | h
        · exact h
        · rw [lastN_zero h] at h2; omega
      have e := hit_way hw hb he hl
      exact absurd (e ▸ hh r hr h1 w.steps hs (by omega)) hn

section
variable {bits : Int} {W : List Wy} {R : List Rt} {w : Wy} {node b : Nat}
theorem next_in (hw : W[node]? = some w) (hb : b < 16) : ((nodes bits W R).getD node Nd.zero).nx b = nextF W w b := by
  rw [nodes_getD hw, nodeF, Nd.nx_mk' hb]
theorem next_ok (hW : WOk W) (hw : W[node]? = some w) (hb : b < 16) (hl : W.length ≤ 512) : nextO (nodes bits W R) node b = decide ((addW W (child w b)).length ≤ 512) := by
  rw [nextO, next_in hw hb, nodes_length]
  by_cases h : child w b ∈ W
  · rw [decide_eq_true ((nextF_pos hW).2 h), Bool.true_or, addW, if_pos h, decide_eq_true hl]
  · rw [decide_eq_false (fun h' => h ((nextF_pos hW).1 h')), Bool.false_or, addW, if_neg h, List.length_append]; simp; omega
theorem next_num (hW : WOk W) (hw : W[node]? = some w) (hb : b < 16) (hl : (addW W (child w b)).length ≤ 512) : nextN (nodes bits W R) node b = ((addW W (child w b)).idxOf (child w b) : Nat) := by
  rw [nextN, next_in hw hb, nodes_length]
  by_cases h : child w b ∈ W
  · rw [if_pos ((nextF_pos hW).2 h), addW, if_pos h, nextF, if_pos h]
  · rw [addW, if_neg h, List.length_append] at hl
    simp only [List.length_cons, List.length_nil] at hl
    rw [if_neg (fun h' => h ((nextF_pos hW).1 h')), if_neg (by omega), addW, if_neg h, List.idxOf_append, if_neg h]; simp
theorem next_list (hW : WOk W) (hw : W[node]? = some w) (hb : b < 16) (hs : w.steps < 31) (hh : Holds' bits W R) (hl : (addW W (child w b)).length ≤ 512) : nextL (nodes bits W R) node b = nodes bits (addW W (child w b)) R := by
  have hwm := List.mem_of_getElem? hw
  have hwk := hW.ok w hwm
  rw [nextL, next_in hw hb, nodes_length, nodes_getD hw]
  by_cases h : child w b ∈ W
  · rw [if_pos (.inl ((nextF_pos hW).2 h)), addW, if_pos h]
  · rw [addW, if_neg h] at hl
    simp only [List.length_append, List.length_cons, List.length_nil] at hl
    rw [if_neg (by rw [nextF_pos hW]; intro h'; rcases h' with h' | h'; exact h h'; omega), addW, if_neg h]
    have hck : (child w b).ok := ⟨by simp only [child]; omega, rset_full (by omega) hb hwk.2⟩
    have hnd : (W ++ [child w b]).Nodup := by have := addW_nodup (w := child w b) hW.nodup; rwa [addW, if_neg h] at this
    have nlt : node < W.length := (List.getElem?_eq_some_iff.1 hw).1
    refine List.ext_getElem? fun i => ?_
    rcases Nat.lt_trichotomy i W.length with hi | hi | hi
    · obtain ⟨v, hv⟩ : ∃ v, W[i]? = some v := ⟨W[i], by simp [hi]⟩
      have hvm := List.mem_of_getElem? hv
      have e2 : (W ++ [child w b])[i]? = some v := by rw [List.getElem?_append_left hi]; exact hv
      rw [nodes_get e2, List.getElem?_set]
      have nx : ∀ c, c < 16 → nextF (W ++ [child w b]) v c = if child v c = child w b then (W.length : Int) else nextF W v c := fun c hc => by
        unfold nextF
        by_cases h1 : child v c = child w b
        · rw [if_pos (by rw [h1]; simp), if_pos h1, h1, List.idxOf_append, if_neg h]; simp
        · rw [if_neg h1]
          by_cases h2 : child v c ∈ W
          · rw [if_pos (by simp [h2]), if_pos h2, List.idxOf_append, if_pos h2]
          · rw [if_neg (by simp [h1, h2]), if_neg h2]
      split
      · rename_i e
        subst e
        rw [if_pos (by simp; omega)]
        obtain rfl : w = v := Option.some.inj (hw.symm.trans hv)
        refine congrArg some (Nd.ext' (fun c hc => ?_) fun c hc => ?_)
        · rw [Nd.sl_setNx, nodeF, nodeF, Nd.sl_mk' hc, Nd.sl_mk' hc]
        · rw [Nd.nx_set hb, nodeF, nodeF, Nd.nx_mk' hc, Nd.nx_mk' hc, nx c hc]
          by_cases hbc : b = c
          · subst hbc; rw [if_pos rfl, if_pos rfl]
          · rw [if_neg hbc, if_neg fun e => hbc (child_inj hwk hwk hc hb e).2.symm]
      · rename_i e
        rw [List.getElem?_append_left (by simpa using hi), nodes_get hv]
        refine congrArg some (Nd.ext' (fun c hc => ?_) fun c hc => ?_)
        · rw [nodeF, nodeF, Nd.sl_mk' hc, Nd.sl_mk' hc]
        · rw [nodeF, nodeF, Nd.nx_mk' hc, Nd.nx_mk' hc, nx c hc, if_neg fun e' => ?_]
          obtain ⟨rfl, _⟩ := child_inj (hW.ok v hvm) hwk hc hb e'
          exact e (get_inj hW.nodup hw hv)
    · have e2 : (W ++ [child w b])[i]? = some (child w b) := by rw [hi]; simp
      rw [nodes_get e2, List.getElem?_set, if_neg (by omega), List.getElem?_append_right (by simp [hi])]
      simp only [nodes_length, hi, Nat.sub_self, List.getElem?_cons_zero]
      refine congrArg some (Nd.ext' (fun c hc => ?_) fun c hc => ?_)
      · rw [Nd.sl_zero, nodeF, Nd.sl_mk' hc, slotF_new hh hck hc (by simp [child]) h]
      · rw [Nd.nx_zero, nodeF, Nd.nx_mk' hc, nextF, if_neg]
        intro hm
        rcases List.mem_append.1 hm with hm | hm
        · have := hW.up _ hm (w.steps + 1) (by simp only [child]; omega)
          refine h ?_
          have e3 : wayAt (child (child w b) c).key (w.steps + 1) = child w b := by
            have := rset_cut (k := (child w b).key) (n := w.steps + 1) (b := c) hck.1 hc hck.2
            simp only [child, wayAt] at this ⊢
            rw [this]
          rwa [e3] at this
        · have := congrArg Wy.steps (List.mem_singleton.1 hm)
          simp [child] at this
    · rw [List.getElem?_eq_none (by simp; omega), List.getElem?_eq_none (by simp; omega)]
end

/-! The slots that a route fits. -/
def openN (p : Pfx) : Nat := (4 - (p.len - 4 * (lastN p : Int))).toNat
theorem openN_eq {p : Pfx} (h : pmay p = true) : openN p ≤ 4 ∧ (p.len : Int) = 4 * (lastN p : Int) + 4 - (openN p : Int) := by
  obtain ⟨_, h2, h3, _⟩ := (pmay_iff p).1 h
  unfold openN lastN; omega
theorem nib_range {x y e : Nat} (hx : x < 16) (hy : y < 16) (he : e ≤ 4) (h0 : x % 2 ^ e = 0) : (x ≤ y ∧ y < x + 2 ^ e) ↔ ∀ j, e ≤ j → j < 4 → y.testBit j = x.testBit j := by
  have hp : 0 < 2 ^ e := Nat.two_pow_pos e
  have hq := Nat.div_add_mod x (2 ^ e)
  have hr := Nat.div_add_mod y (2 ^ e)
  have hm := Nat.mod_lt y hp
  have key : (x ≤ y ∧ y < x + 2 ^ e) ↔ y / 2 ^ e = x / 2 ^ e := by
    constructor
    · rintro ⟨h1, h2⟩
      apply Nat.le_antisymm
      · apply Nat.le_of_lt_succ
        apply Nat.div_lt_of_lt_mul
        rw [Nat.mul_succ]; omega
      · exact Nat.div_le_div_right h1
    · intro h
      rw [h] at hr; omega
  rw [key]
  constructor
  · intro h j h1 h2
    have := congrArg (fun z => z.testBit (j - e)) h
    simp only [Nat.testBit_div_two_pow] at this
    rwa [show j - e + e = j by omega] at this
  · intro h
    refine Nat.eq_of_testBit_eq fun j => ?_
    rw [Nat.testBit_div_two_pow, Nat.testBit_div_two_pow]
    rcases Nat.lt_or_ge (j + e) 4 with hj | hj
    · exact h _ (by omega) hj
    · have hp : 2 ^ 4 ≤ 2 ^ (j + e) := Nat.pow_le_pow_right (by decide) hj
      rw [Nat.testBit_lt_two_pow (Nat.lt_of_lt_of_le hx hp), Nat.testBit_lt_two_pow (Nat.lt_of_lt_of_le hy hp)]
theorem kst_open {p : Pfx} (h : pmay p = true) : kst p.key (lastN p) % 2 ^ openN p = 0 := by
  obtain ⟨h1, h2⟩ := openN_eq h
  have hb := (pmay_bits p).1 h
  have hl := lastN_lt h
  refine Nat.eq_of_testBit_eq fun j => ?_
  rw [Nat.testBit_mod_two_pow, Nat.zero_testBit]
  by_cases hj : j < openN p
  · rw [kst_bit _ _ _ hl (by omega), hb.2.2.2 _ (by omega) (by omega)]; simp
  · simp [hj]
theorem kst_room {p : Pfx} (h : pmay p = true) : kst p.key (lastN p) + 2 ^ openN p ≤ 16 := by
  have h0 := kst_open h
  have hlt := kst_lt p.key (lastN p)
  obtain ⟨h1, _⟩ := openN_eq h
  have := Nat.div_add_mod (kst p.key (lastN p)) (2 ^ openN p)
  generalize kst p.key (lastN p) = x at *
  generalize openN p = e at *
  match e, h1 with
  | 0, _ => simp; omega
  | 1, _ => simp at *; omega
  | 2, _ => simp at *; omega
  | 3, _ => simp at *; omega
  | 4, _ => simp at *; omega
theorem hit_iff {r : Rt} {bits : Int} {w : Wy} {b : Nat} (hr : pmay r.p = true) (hbits : r.p.bits = bits) (hw : w.ok) (hb : b < 16) :
    hit r bits w b = true ↔ w = wayAt r.p.key (lastN r.p) ∧ kst r.p.key (lastN r.p) ≤ b ∧ b < kst r.p.key (lastN r.p) + 2 ^ openN r.p := by
  obtain ⟨he1, he2⟩ := openN_eq hr
  have hpb := (pmay_bits r.p).1 hr
  have hl := lastN_lt hr
  rw [nib_range (kst_lt _ _) hb he1 (kst_open hr)]
  constructor
  · intro h
    have hw' : w = wayAt r.p.key (lastN r.p) := by
      have h' := h
      simp only [hit, Bool.and_eq_true, decide_eq_true_eq] at h'
      obtain ⟨⟨h1, h2⟩, h3⟩ := h'
      rcases Int.lt_or_le 0 r.p.len with hl | hl
      · rw [h2]; exact hit_way hw hb h hl
      · have h0 := lastN_zero hl
        rw [h0, wayAt_zero]
        obtain ⟨s, k⟩ := w
        have hs : s = 0 := by rw [h0] at h2; exact h2.symm
        subst hs
        have := hw.2
        simp only [Nat.mul_zero] at this
        rw [kcut_none _ _ (by decide)] at this
        rw [root, ← this]
    refine ⟨hw', fun j h1 h2 => ?_⟩
    subst hw'
    simp only [hit, Bool.and_eq_true, decide_eq_true_eq] at h
    obtain ⟨_, _, h4⟩ := (pfits_iff _ _).1 h.2
    have hm := congrArg (fun k : Key => k.getMsbD (4 * lastN r.p + 3 - j)) h4
    simp only [kcut_msb] at hm
    rw [decide_eq_true (by omega), Bool.true_and] at hm
    rw [kst_bit _ _ _ hl h2, ← hm]
    have e := rset_msb (k := (wayAt r.p.key (lastN r.p)).key) (n := lastN r.p) hl hb (wayAt_cut _ _) (4 * lastN r.p + 3 - j) (by omega)
    rw [if_neg (by omega), if_pos (by omega)] at e
    have e' : (rset (wayAt r.p.key (lastN r.p)).key (wayAt r.p.key (lastN r.p)).steps b).getMsbD (4 * lastN r.p + 3 - j) = b.testBit (4 * lastN r.p + 3 - (4 * lastN r.p + 3 - j)) := e
    rw [e']; congr 1; omega
  · rintro ⟨rfl, h⟩
    simp only [hit, Bool.and_eq_true, decide_eq_true_eq]
    refine ⟨⟨hbits, rfl⟩, (pfits_iff _ _).2 ⟨hr, ?_, ?_⟩⟩
    · have hf := rset_full (k := (wayAt r.p.key (lastN r.p)).key) (n := lastN r.p) hl hb (wayAt_cut _ _)
      refine (kcut_self_iff _ _).2 fun i hi h2 => ?_
      refine (kcut_self_iff _ _).1 hf i hi ?_
      have := hpb.1; have h3 := hpb.2.2.1; have h4 := hpb.2.1
      have : (lastN r.p : Int) ≤ (r.p.bits - 1) / 4 := by unfold lastN; omega
      omega
    · refine key_ext fun i hi => ?_
      have hm := rset_msb (k := (wayAt r.p.key (lastN r.p)).key) (n := lastN r.p) hl hb (wayAt_cut _ _) i hi
      have hm' : (rset (wayAt r.p.key (lastN r.p)).key (wayAt r.p.key (lastN r.p)).steps b).getMsbD i = _ := hm
      rw [kcut_msb, hm']
      by_cases h1 : (i : Int) < r.p.len
      · rw [decide_eq_true h1, Bool.true_and]
        by_cases h2 : i < 4 * lastN r.p
        · rw [if_pos h2]; simp only [wayAt]; rw [cut_nat_msb, decide_eq_true h2, Bool.true_and]
        · rw [if_neg h2, if_pos (by omega), h _ (by omega) (by omega), kst_bit _ _ _ hl (by omega)]; congr 1; omega
      · rw [decide_eq_false h1, Bool.false_and, hpb.2.2.2 i hi (by omega)]

def nodesP (bits : Int) (W : List Wy) (R : List Rt) (r : Rt) (f : Nat) : List Nd := W.map fun w =>
  if w = wayAt r.p.key (lastN r.p) then Nd.mk' (fun b => if b < f then slotF bits (R ++ [r]) w b else slotF bits R w b) (nextF W w) else nodeF bits W R w
@[simp] theorem nodesP_length (bits : Int) (W : List Wy) (R : List Rt) (r : Rt) (f : Nat) : (nodesP bits W R r f).length = W.length := by simp [nodesP]
section
variable {bits : Int} {W : List Wy} {R : List Rt} {r : Rt} {f : Nat}
theorem slot_miss {w : Wy} {b : Nat} (h : hit r bits w b = false) : slotF bits (R ++ [r]) w b = slotF bits R w b := by
  rw [slotF_snoc, slotUp, if_neg (by rw [h]; simp)]
theorem nodesP_start (hW : WOk W) (hr : pmay r.p = true) (hb : r.p.bits = bits) : nodesP bits W R r (kst r.p.key (lastN r.p)) = nodes bits W R := by
  refine List.map_congr_left fun w hw => ?_
  split
  · rename_i e
    refine Nd.ext' (fun b hb' => ?_) fun b hb' => by rw [nodeF, Nd.nx_mk' hb', Nd.nx_mk' hb']
    rw [nodeF, Nd.sl_mk' hb', Nd.sl_mk' hb']
    split
    · rename_i hlt
      refine slot_miss ?_
      cases hh : hit r bits w b with
      | false => rfl
      | true => have := (hit_iff hr hb (hW.ok w hw) hb').1 hh; omega
    · rfl
  · rfl
theorem nodesP_end (hW : WOk W) (hr : pmay r.p = true) (hb : r.p.bits = bits) : nodesP bits W R r (kst r.p.key (lastN r.p) + 2 ^ openN r.p) = nodes bits W (R ++ [r]) := by
  refine List.map_congr_left fun w hw => ?_
  split
  · rename_i e
    refine Nd.ext' (fun b hb' => ?_) fun b hb' => by rw [nodeF, Nd.nx_mk' hb', Nd.nx_mk' hb']
    rw [nodeF, Nd.sl_mk' hb', Nd.sl_mk' hb']
    split
    · rfl
    · rename_i hlt
      refine (slot_miss ?_).symm
      cases hh : hit r bits w b with
      | false => rfl
      | true => have := (hit_iff hr hb (hW.ok w hw) hb').1 hh; omega
  · rename_i e
    refine Nd.ext' (fun b hb' => ?_) fun b hb' => by rw [nodeF, nodeF, Nd.nx_mk' hb', Nd.nx_mk' hb']
    rw [nodeF, nodeF, Nd.sl_mk' hb', Nd.sl_mk' hb']
    refine (slot_miss ?_).symm
    cases hh : hit r bits w b with
    | false => rfl
    | true => exact absurd ((hit_iff hr hb (hW.ok w hw) hb').1 hh).1 e
theorem nodesP_get (f : Nat) {i : Nat} (hi : W[i]? = some (wayAt r.p.key (lastN r.p))) : (nodesP bits W R r f)[i]? = some (Nd.mk' (fun b => if b < f then slotF bits (R ++ [r]) (wayAt r.p.key (lastN r.p)) b else slotF bits R (wayAt r.p.key (lastN r.p)) b) (nextF W (wayAt r.p.key (lastN r.p)))) := by
  simp [nodesP, hi]
theorem nodesP_slot {i : Nat} (hi : W[i]? = some (wayAt r.p.key (lastN r.p))) (hf : f < 16) {n : Nd} (hn : (nodesP bits W R r f)[i]? = some n) : n.sl f = slotF bits R (wayAt r.p.key (lastN r.p)) f := by
  rw [nodesP_get f hi] at hn
  obtain rfl := (Option.some.inj hn).symm
  rw [Nd.sl_mk' hf, if_neg (by omega)]
theorem nodesP_keep (hW : WOk W) (hf : ¬ (slotF bits R (wayAt r.p.key (lastN r.p)) f).len ≤ r.p.len) : nodesP bits W R r (f + 1) = nodesP bits W R r f := by
  refine List.map_congr_left fun w hw => ?_
  split
  · rename_i e
    refine Nd.ext' (fun b hb' => ?_) fun b hb' => by rw [Nd.nx_mk' hb', Nd.nx_mk' hb']
    rw [Nd.sl_mk' hb', Nd.sl_mk' hb']
    by_cases h1 : b = f
    · subst h1
      rw [if_pos (by omega), if_neg (by omega), slotF_snoc, slotUp, if_neg]
      subst e; intro h; exact hf h.2
    · by_cases h2 : b < f
      · rw [if_pos (by omega), if_pos h2]
      · rw [if_neg (by omega), if_neg h2]
  · rfl
theorem nodesP_put (hW : WOk W) (hr : pmay r.p = true) (hb : r.p.bits = bits) {i : Nat} (hi : W[i]? = some (wayAt r.p.key (lastN r.p))) {n : Nd} (hn : (nodesP bits W R r f)[i]? = some n)
    (h1 : kst r.p.key (lastN r.p) ≤ f) (h2 : f < kst r.p.key (lastN r.p) + 2 ^ openN r.p) (hf : (slotF bits R (wayAt r.p.key (lastN r.p)) f).len ≤ r.p.len) :
    (nodesP bits W R r f).set i (n.setSl f ⟨r.p.len + 1, r.hop⟩) = nodesP bits W R r (f + 1) := by
  have h16 := kst_room hr
  have hwm := List.mem_of_getElem? hi
  rw [nodesP_get f hi] at hn
  obtain rfl := (Option.some.inj hn).symm
  refine List.ext_getElem? fun j => ?_
  rw [List.getElem?_set]
  split
  · rename_i e
    subst e
    have hil := (List.getElem?_eq_some_iff.1 hi).1
    rw [if_pos (by simpa using hil), nodesP_get (f + 1) hi]
    refine congrArg some (Nd.ext' (fun b hb' => ?_) fun b hb' => by rw [Nd.nx_setSl, Nd.nx_mk' hb', Nd.nx_mk' hb'])
    rw [Nd.sl_set (by omega), Nd.sl_mk' hb', Nd.sl_mk' hb']
    by_cases h3 : f = b
    · subst h3
      rw [if_pos rfl, if_pos (by omega), slotF_snoc, slotUp, if_pos ⟨(hit_iff hr hb (hW.ok _ hwm) hb').2 ⟨rfl, h1, h2⟩, hf⟩]
    · rw [if_neg h3]
      by_cases h4 : b < f
      · rw [if_pos h4, if_pos (by omega)]
      · rw [if_neg h4, if_neg (by omega)]
  · rename_i e
    rcases Nat.lt_or_ge j W.length with hj | hj
    · obtain ⟨v, hv⟩ : ∃ v, W[j]? = some v := ⟨W[j], by simp [hj]⟩
      have hne : v ≠ wayAt r.p.key (lastN r.p) := fun e' => by subst e'; exact e (get_inj hW.nodup hi hv)
      simp [nodesP, hv, hne]
    · rw [List.getElem?_eq_none (by simpa using hj), List.getElem?_eq_none (by simpa using hj)]
end

theorem max_last {p : Pfx} (h : 0 ≤ p.len) : max (0 : Int) ((p.len - 1).tdiv 4) = ((lastN p : Nat) : Int) := by
  unfold lastN
  rcases Int.lt_or_le 0 p.len with h1 | h1
  · rw [Int.tdiv_eq_ediv_of_nonneg (by omega)]; omega
  · obtain h2 : p.len = 0 := by omega
    rw [h2]; decide
theorem tdiv_rng {l : Int} (h0 : 0 ≤ l) (h1 : l ≤ 128) : 0 ≤ (l - 1).tdiv 4 ∧ (l - 1).tdiv 4 ≤ 31 := by
  rcases Int.lt_or_le 0 l with h | h
  · rw [Int.tdiv_eq_ediv_of_nonneg (by omega)]; omega
  · obtain h2 : l = 0 := by omega
    rw [h2]; decide
theorem addTo_last {W : List Wy} (hW : WOk W) (p : Pfx) (i : Nat) : wayAt p.key i ∈ addTo W p i := by
  rcases Nat.eq_zero_or_pos i with e | e
  · subst e; rw [wayAt_zero, addTo_zero]; exact List.mem_of_getElem? hW.root
  · exact addTo_mem.2 (.inr ⟨i, e, Nat.le_refl _, rfl⟩)

/-! A whole table. -/
theorem Holds'.mono {bits : Int} {W W' : List Wy} {R : List Rt} (h : Holds' bits W R) (hp : W <+: W') : Holds' bits W' R := fun r hr hb s h1 h2 => hp.subset (h r hr hb s h1 h2)
theorem holds_ways {bits : Int} : ∀ (n : Nat) (t : List Rt), Holds' bits (waysF bits (t.take n)) (t.take n)
  | 0, t => by simp [Holds']
  | n + 1, t => by
    rcases Nat.lt_or_ge n t.length with h | h
    · rw [List.take_succ_eq_append_getElem h, ways_snoc]
      intro r hr hb s h1 h2
      rcases List.mem_append.1 hr with hr | hr
      · exact (holds_ways n t).mono addWs_pre r hr hb s h1 h2
      · obtain rfl := List.mem_singleton.1 hr
        rw [addWs, if_pos hb]; exact addTo_mem.2 (.inr ⟨s, h1, h2, rfl⟩)
    · rw [List.take_of_length_le (by omega)]
      have := holds_ways (bits := bits) n t
      rwa [List.take_of_length_le h] at this
theorem ways_take {bits : Int} {t : List Rt} {i : Nat} {r : Rt} (h : t[i]? = some r) : waysF bits (t.take (i + 1)) = addWs (waysF bits (t.take i)) r bits := by
  obtain ⟨hi, rfl⟩ := List.getElem?_eq_some_iff.1 h
  rw [List.take_succ_eq_append_getElem hi, ways_snoc]
theorem ways_mono {bits : Int} {t : List Rt} : ∀ {i j : Nat}, i ≤ j → waysF bits (t.take i) <+: waysF bits (t.take j) := by
  intro i j hij
  induction j with
  | zero => obtain rfl : i = 0 := by omega
            exact List.prefix_rfl
  | succ j ih =>
    rcases Nat.lt_or_ge j i with h | h
    · obtain rfl : i = j + 1 := by omega
      exact List.prefix_rfl
    · refine (ih h).trans ?_
      rcases Nat.lt_or_ge j t.length with h' | h'
      · rw [List.take_succ_eq_append_getElem h', ways_snoc]; exact addWs_pre
      · rw [List.take_of_length_le (by omega), List.take_of_length_le (by omega)]
        exact List.prefix_rfl
theorem nodes_skip {bits : Int} {W : List Wy} {R : List Rt} {r : Rt} (h : r.p.bits ≠ bits) : nodes bits W (R ++ [r]) = nodes bits W R := by
  refine List.map_congr_left fun w hw => ?_
  refine Nd.ext' (fun b hb' => ?_) fun b hb' => by rw [nodeF, nodeF, Nd.nx_mk' hb', Nd.nx_mk' hb']
  rw [nodeF, nodeF, Nd.sl_mk' hb', Nd.sl_mk' hb', slot_miss]
  simp [hit, h]
theorem nodes_root (bits : Int) : nodes bits [root] [] = [Nd.zero] := by
  have e : nodeF bits [root] [] root = Nd.zero := Nd.ext' (fun b hb => by rw [nodeF, Nd.sl_mk' hb, Nd.sl_zero]; rfl) fun b hb => by
    rw [nodeF, Nd.nx_mk' hb, Nd.nx_zero, nextF, if_neg]
    intro h
    have := congrArg Wy.steps (List.mem_singleton.1 h)
    simp [child, root] at this
  simp [nodes, e]
theorem tr_may {t : List Rt} (h : tright t = true) {r : Rt} (hr : r ∈ t) : pmay r.p = true := by
  obtain ⟨i, hi⟩ := List.mem_iff_getElem?.1 hr
  have hlt := (List.getElem?_eq_some_iff.1 hi).1
  cases hm : pmay r.p with
  | true => rfl
  | false => rw [tright_no hlt (okAt_may hi hm)] at h; cases h
theorem tr_len {t : List Rt} (h : tright t = true) : t.length ≤ 256 := by
  rcases Nat.lt_or_ge 256 t.length with h1 | h1
  · rw [tright_long h1] at h; cases h
  · exact h1
def nextG (W : List Wy) (w : Wy) (b m : Nat) : Int := if child w b ∈ W.take m then (W.idxOf (child w b) : Nat) else 0
theorem nextG_all {W : List Wy} {w : Wy} {b m : Nat} (h : W.length ≤ m) : nextG W w b m = nextF W w b := by
  rw [nextG, List.take_of_length_le h]; rfl
theorem nextG_one {W : List Wy} (hW : WOk W) {w : Wy} {b : Nat} : nextG W w b 1 = 0 := by
  rw [nextG, if_neg]
  intro h
  obtain ⟨x, l, e⟩ : ∃ x l, W = x :: l := by
    cases hx : W with
    | nil => have := hW.ne; rw [hx] at this; simp at this
    | cons x l => exact ⟨x, l, rfl⟩
  have hr := hW.root
  subst e
  simp only [List.take_succ_cons, List.take_zero, List.mem_singleton] at h
  simp only [List.getElem?_cons_zero, Option.some.injEq] at hr
  have := congrArg Wy.steps (h.trans hr)
  simp [child, root] at this
theorem nextG_succ {W : List Wy} (hW : WOk W) {w v : Wy} {b m : Nat} (hm : W[m]? = some v) : nextG W w b (m + 1) = if v.steps = w.steps + 1 ∧ v.key = rset w.key w.steps b then (m : Int) else nextG W w b m := by
  have e : W.take (m + 1) = W.take m ++ [v] := by
    obtain ⟨hi, rfl⟩ := List.getElem?_eq_some_iff.1 hm
    exact List.take_succ_eq_append_getElem hi
  have hc : (v.steps = w.steps + 1 ∧ v.key = rset w.key w.steps b) ↔ v = child w b := by
    obtain ⟨s, k⟩ := v
    simp [child]
  unfold nextG
  rw [e]
  by_cases h : v = child w b
  · rw [if_pos (hc.2 h), if_pos (by simp [h]), ← h, get_idx hW.nodup hm]
  · rw [if_neg (fun h' => h (hc.1 h'))]
    have : child w b ∈ W.take m ++ [v] ↔ child w b ∈ W.take m := by
      simp [List.mem_append, show ¬ child w b = v from fun h' => h h'.symm]
    by_cases h2 : child w b ∈ W.take m
    · rw [if_pos (this.2 h2), if_pos h2]
    · rw [if_neg (fun h' => h2 (this.1 h')), if_neg h2]
def nodeB (bits : Int) (W : List Wy) (R : List Rt) (w : Wy) (b : Nat) : Nd := Nd.mk' (fun c => if c < b then slotF bits R w c else Slt.no) (fun c => if c < b then nextF W w c else 0)
theorem nodeB_zero (bits : Int) (W : List Wy) (R : List Rt) (w : Wy) : nodeB bits W R w 0 = Nd.zero := Nd.ext' (fun c hc => by rw [nodeB, Nd.sl_mk' hc, if_neg (by omega), Nd.sl_zero]) fun c hc => by rw [nodeB, Nd.nx_mk' hc, if_neg (by omega), Nd.nx_zero]
theorem nodeB_all (bits : Int) (W : List Wy) (R : List Rt) (w : Wy) : nodeB bits W R w 16 = nodeF bits W R w := Nd.ext' (fun c hc => by rw [nodeB, nodeF, Nd.sl_mk' hc, Nd.sl_mk' hc, if_pos hc]) fun c hc => by rw [nodeB, nodeF, Nd.nx_mk' hc, Nd.nx_mk' hc, if_pos hc]
theorem nodeB_start {bits : Int} {W : List Wy} {R : List Rt} {w : Wy} {b : Nat} (hb : b < 16) : (nodeB bits W R w b).setSl b (slotF bits [] w b) = nodeB bits W R w b := Nd.ext' (fun c hc => by
    rw [Nd.sl_set hb]; split
    · rename_i e; subst e; rw [nodeB, Nd.sl_mk' hc, if_neg (by omega)]; rfl
    · rfl) fun c _ => by rw [Nd.nx_setSl]
theorem nodeB_next {bits : Int} {W : List Wy} (hW : WOk W) {R : List Rt} {w : Wy} {b : Nat} (hb : b < 16) : ((nodeB bits W R w b).setSl b (slotF bits R w b)).setNx b (nextG W w b 1) = (nodeB bits W R w b).setSl b (slotF bits R w b) := Nd.ext' (fun c _ => by rw [Nd.sl_setNx]) fun c hc => by
    rw [Nd.nx_set hb]; split
    · rename_i e; subst e; rw [nextG_one hW, Nd.nx_setSl, nodeB, Nd.nx_mk' hc, if_neg (by omega)]
    · rfl
theorem nodeB_succ {bits : Int} {W : List Wy} {R : List Rt} {w : Wy} {b : Nat} (hb : b < 16) : ((nodeB bits W R w b).setSl b (slotF bits R w b)).setNx b (nextF W w b) = nodeB bits W R w (b + 1) := Nd.ext' (fun c hc => by
    rw [Nd.sl_setNx, Nd.sl_set hb, nodeB, nodeB, Nd.sl_mk' hc, Nd.sl_mk' hc]
    by_cases h : b = c
    · subst h; rw [if_pos rfl, if_pos (by omega)]
    · rw [if_neg h]
      by_cases h2 : c < b
      · rw [if_pos h2, if_pos (by omega)]
      · rw [if_neg h2, if_neg (by omega)]) fun c hc => by
    rw [Nd.nx_set hb, Nd.nx_setSl, nodeB, nodeB, Nd.nx_mk' hc, Nd.nx_mk' hc]
    by_cases h : b = c
    · subst h; rw [if_pos rfl, if_pos (by omega)]
    · rw [if_neg h]
      by_cases h2 : c < b
      · rw [if_pos h2, if_pos (by omega)]
      · rw [if_neg h2, if_neg (by omega)]
theorem setSl_setSl {n : Nd} {b : Nat} {x y : Slt} (hb : b < 16) : (n.setSl b x).setSl b y = n.setSl b y := Nd.ext' (fun c _ => by
    rw [Nd.sl_set hb, Nd.sl_set hb, Nd.sl_set hb]; split <;> rfl) fun c _ => rfl
theorem setNx_setNx {n : Nd} {b : Nat} {x y : Int} (hb : b < 16) : (n.setNx b x).setNx b y = n.setNx b y := Nd.ext' (fun c _ => rfl) fun c _ => by
    rw [Nd.nx_set hb, Nd.nx_set hb, Nd.nx_set hb]; split <;> rfl
def buildE (t : List Rt) (bits : Int) : Int := if tright t = true ∧ (bits = 32 ∨ bits = 128) then (if (waysF bits t).length ≤ 512 then 0 else 5) else 1
def buildB (t : List Rt) (bits : Int) : Int := if buildE t bits = 0 then bits else 0
def buildN (t : List Rt) (bits : Int) : List Nd := if buildE t bits = 0 then nodes bits (waysF bits t) t else []
theorem buildE_arg {t : List Rt} {bits : Int} (h : ¬ (tright t = true ∧ (bits = 32 ∨ bits = 128))) : buildE t bits = 1 ∧ buildB t bits = 0 ∧ buildN t bits = [] := by
  have e : buildE t bits = 1 := by rw [buildE, if_neg h]
  exact ⟨e, by rw [buildB, e]; rfl, by rw [buildN, e]; rfl⟩
theorem buildE_full {t : List Rt} {bits : Int} (h : tright t = true ∧ (bits = 32 ∨ bits = 128)) (h2 : ¬ (waysF bits t).length ≤ 512) : buildE t bits = 5 ∧ buildB t bits = 0 ∧ buildN t bits = [] := by
  have e : buildE t bits = 5 := by rw [buildE, if_pos h, if_neg h2]
  exact ⟨e, by rw [buildB, e]; rfl, by rw [buildN, e]; rfl⟩
theorem buildE_ok {t : List Rt} {bits : Int} (h : tright t = true ∧ (bits = 32 ∨ bits = 128)) (h2 : (waysF bits t).length ≤ 512) : buildE t bits = 0 ∧ buildB t bits = bits ∧ buildN t bits = nodes bits (waysF bits t) t := by
  have e : buildE t bits = 0 := by rw [buildE, if_pos h, if_pos h2]
  exact ⟨e, by rw [buildB, e]; rfl, by rw [buildN, e]; rfl⟩
end Go.Kb

/- A trie's nodes, its ways and whole numbers as cells: what is read and written of them. -/
namespace Go.Kb
open Go.Eng

/-! Whole numbers. -/
def iec (x : Int) : Array Value := #[.int .i64 x]
instance : Enc iec 1 := ⟨fun _ => rfl, fun _ => by simp [iec, Value.oneCell']⟩
instance (x : Int) : CellAt (iec x) 0 (.int .i64 x) := ⟨rfl⟩
instance : Deep Int := Deep.flat iec 1
instance : FlatT Int iec 1 := ⟨rfl, fun _ => rfl⟩
instance : Plain Int := ⟨fun _ => rfl⟩

/-! Truths. -/
def bec (x : Bool) : Array Value := #[.bool x]
instance : Enc bec 1 := ⟨fun _ => rfl, fun _ => by simp [bec, Value.oneCell']⟩
instance (x : Bool) : CellAt (bec x) 0 (.bool x) := ⟨rfl⟩
instance : Deep Bool := Deep.flat bec 1
instance : FlatT Bool bec 1 := ⟨rfl, fun _ => rfl⟩
instance : Plain Bool := ⟨fun _ => rfl⟩

/-! Slots. -/
def slcells (s : Slt) : Array Value := #[.int .i64 s.len, .int .u16 s.hop.toNat]
instance : Enc slcells 2 := ⟨fun _ => rfl, fun _ => by simp [slcells, Value.oneCell']⟩
instance (s : Slt) : SizeIs (slcells s) 2 := ⟨rfl, Enc.one s⟩
instance (s : Slt) : CellAt (slcells s) 0 (.int .i64 s.len) := ⟨rfl⟩
instance (s : Slt) : CellAt (slcells s) 1 (.int .u16 s.hop.toNat) := ⟨rfl⟩

/-! Nodes. -/
def ncell (n : Nd) (j : Nat) : Value := if j < 32 then (if j % 2 = 0 then .int .i64 (n.sl (j / 2)).len else .int .u16 (n.sl (j / 2)).hop.toNat) else .int .i64 (n.nx (j - 32))
def ncells (n : Nd) : Array Value := ((List.range 48).map (ncell n)).toArray
theorem ncells_size (n : Nd) : (ncells n).size = 48 := by simp [ncells]
theorem ncells_get (n : Nd) (j : Nat) (h : j < 48) : (ncells n)[j]? = some (ncell n j) := by simp [ncells, h]
theorem ncells_none (n : Nd) (j : Nat) (h : 48 ≤ j) : (ncells n)[j]? = none := by simp [ncells]; omega
instance : Enc ncells 48 := ⟨ncells_size, fun n => by
  rw [Array.all_eq_true_iff_forall_mem]
  intro v hv
  simp only [ncells, List.mem_toArray, List.mem_map] at hv
  obtain ⟨j, _, rfl⟩ := hv
  unfold ncell; split
  · split <;> rfl
  · rfl⟩
instance (n : Nd) : SizeIs (ncells n) 48 := ⟨ncells_size n, Enc.one n⟩
instance : Deep Nd := Deep.flat ncells 48
instance : FlatT Nd ncells 48 := ⟨rfl, fun _ => rfl⟩
instance : Plain Nd := ⟨fun _ => rfl⟩
theorem ncells_len (n : Nd) {b : Nat} (h : b < 16) : (ncells n)[b * 2]? = some (.int .i64 (n.sl b).len) := by
  rw [ncells_get _ _ (by omega), ncell, if_pos (by omega), if_pos (by omega), show b * 2 / 2 = b by omega]
theorem ncells_hop (n : Nd) {b : Nat} (h : b < 16) : (ncells n)[b * 2 + 1]? = some (.int .u16 (n.sl b).hop.toNat) := by
  rw [ncells_get _ _ (by omega), ncell, if_pos (by omega), if_neg (by omega), show (b * 2 + 1) / 2 = b by omega]
theorem ncells_nx (n : Nd) {b : Nat} (h : b < 16) : (ncells n)[32 + b]? = some (.int .i64 (n.nx b)) := by
  rw [ncells_get _ _ (by omega), ncell, if_neg (by omega), show 32 + b - 32 = b by omega]
theorem ncells_sl (n : Nd) {b : Nat} (h : b < 16) : PartAt (ncells n) (b * 2) 2 (slcells (n.sl b)) := ⟨rfl, fun j hj => by
  match j, hj with
  | 0, _ => exact ncells_len n h
  | 1, _ => exact ncells_hop n h⟩
theorem over_nx (n : Nd) {b : Nat} (h : b < 16) (x : Int) : over (ncells n) (32 + b) #[.int .i64 x] = ncells (n.setNx b x) := Array.ext_getElem? fun j => by
  rw [cells_over (by rw [ncells_size]; simp; omega)]
  rcases Nat.lt_or_ge j 48 with hj | hj
  · rw [ncells_get n j hj, ncells_get (n.setNx b x) j hj]
    split
    · rename_i h2
      have e : j = 32 + b := by simp at h2; omega
      subst e
      rw [Nat.sub_self, ncell, if_neg (by omega), show 32 + b - 32 = b by omega, Nd.nx_set h, if_pos rfl]; rfl
    · rename_i h2
      rw [ncell, ncell]
      by_cases h3 : j < 32
      · rw [if_pos h3, if_pos h3, Nd.sl_setNx]
      · rw [if_neg h3, if_neg h3, Nd.nx_set h, if_neg]
        simp at h2; omega
  · rw [if_neg (by simp; omega), ncells_none _ _ hj, ncells_none _ _ hj]
theorem over_sl (n : Nd) {b : Nat} (h : b < 16) (s : Slt) : over (ncells n) (b * 2) (slcells s) = ncells (n.setSl b s) := Array.ext_getElem? fun j => by
  have hs : (slcells s).size = 2 := rfl
  rw [cells_over (by rw [ncells_size, hs]; omega), hs]
  rcases Nat.lt_or_ge j 48 with hj | hj
  · rw [ncells_get n j hj, ncells_get (n.setSl b s) j hj]
    split
    · rename_i h2
      rw [ncell, if_pos (by omega)]
      rcases Nat.lt_or_ge j (b * 2 + 1) with h3 | h3
      · obtain rfl : j = b * 2 := by omega
        rw [if_pos (by omega), show b * 2 / 2 = b by omega, Nd.sl_set h, if_pos rfl, Nat.sub_self]; rfl
      · obtain rfl : j = b * 2 + 1 := by omega
        rw [if_neg (by omega), show (b * 2 + 1) / 2 = b by omega, Nd.sl_set h, if_pos rfl, show b * 2 + 1 - b * 2 = 1 by omega]; rfl
    · rename_i h2
      rw [ncell, ncell]
      by_cases h3 : j < 32
      · have hne : ¬ b = j / 2 := by omega
        rw [if_pos h3, if_pos h3, Nd.sl_set h]; simp only [if_neg hne]
      · rw [if_neg h3, if_neg h3, Nd.nx_setSl]
  · rw [if_neg (by omega), ncells_none _ _ hj, ncells_none _ _ hj]
theorem u16_inj {a b : UInt16} (h : (a.toNat : Int) = b.toNat) : a = b := UInt16.toNat_inj.1 (by omega)
theorem ncells_inj {a b : Nd} (h : ncells a = ncells b) : a = b := Nd.ext' (fun i hi => by
    have h1 := ncells_len a hi
    have h2 := ncells_hop a hi
    rw [h, ncells_len b hi] at h1
    rw [h, ncells_hop b hi] at h2
    simp only [Option.some.injEq, Value.int.injEq, true_and] at h1 h2
    cases ha : a.sl i; cases hb : b.sl i
    rw [ha, hb] at h1 h2
    simp only at h1 h2
    rw [h1, u16_inj h2])
  fun i hi => by
    have h1 := ncells_nx a hi
    rw [h, ncells_nx b hi] at h1
    simp only [Option.some.injEq, Value.int.injEq, true_and] at h1
    exact h1.symm

/-! Ways. -/
def wcells (w : Wy) : Array Value := #[.int .i64 (w.steps : Nat)] ++ kcells w.key
theorem wcells_size (w : Wy) : (wcells w).size = 17 := by unfold wcells; rw [Array.size_append, kcells_size]; rfl
theorem wcells_0 (w : Wy) : (wcells w)[0]? = some (.int .i64 (w.steps : Nat)) := by unfold wcells; rw [Array.getElem?_append]; rfl
theorem wcells_k (w : Wy) (j : Nat) : (wcells w)[1 + j]? = (kcells w.key)[j]? := by
  unfold wcells; rw [Array.getElem?_append_right (by simp)]; congr 1; simp
theorem kc_one (k : Key) : (kcells k).all (·.oneCell') = true := by
  rw [Array.all_eq_true_iff_forall_mem]
  intro v hv
  simp only [kcells, List.mem_toArray, List.mem_map] at hv
  obtain ⟨j, _, rfl⟩ := hv
  rfl
instance : Enc wcells 17 := ⟨wcells_size, fun w => by rw [wcells, Array.all_append, kc_one]; simp [Value.oneCell']⟩
instance (w : Wy) : SizeIs (wcells w) 17 := ⟨wcells_size w, Enc.one w⟩
instance (w : Wy) : CellAt (wcells w) 0 (.int .i64 (w.steps : Nat)) := ⟨wcells_0 w⟩
instance (w : Wy) : PartAt (wcells w) 1 16 (kcells w.key) := ⟨kcells_size _, fun j _ => wcells_k w j⟩
instance : Deep Wy := Deep.flat wcells 17
instance : FlatT Wy wcells 17 := ⟨rfl, fun _ => rfl⟩
instance : Plain Wy := ⟨fun _ => rfl⟩
theorem wcells_inj {a b : Wy} (h : wcells a = wcells b) : a = b := by
  have h1 := wcells_0 a
  rw [h, wcells_0] at h1
  simp only [Option.some.injEq, Value.int.injEq, true_and] at h1
  have h2 : kcells a.key = kcells b.key := Array.ext_getElem? fun j => by rw [← wcells_k, ← wcells_k, h]
  obtain ⟨s, k⟩ := a
  obtain ⟨s', k'⟩ := b
  simp only at h1 h2
  rw [kcells_inj h2, show s = s' by omega]

/-! Tries. -/
structure Tri where
  bits : Int
  ns : Sl Nd
def tcells (t : Tri) : Array Value := #[.int .i64 t.bits, t.ns.sv.val]
instance : Enc tcells 2 := ⟨fun _ => rfl, fun t => by
  have h1 : (Value.int .i64 t.bits).oneCell' = true := rfl
  simp only [tcells, List.all_toArray, List.all_cons, List.all_nil, Sv.one, h1, Bool.and_self]⟩
instance (t : Tri) : SizeIs (tcells t) 2 := ⟨rfl, Enc.one t⟩
instance (t : Tri) : PartAt (tcells t) 0 2 (tcells t) := ⟨rfl, fun j _ => by rw [Nat.zero_add]⟩
instance (t : Tri) : CellAt (tcells t) 0 (.int .i64 t.bits) := ⟨rfl⟩
instance (t : Tri) : CellAt (tcells t) 1 t.ns.sv.val := ⟨rfl⟩
instance : Deep Tri where
  c := 2
  cells := tcells
  size := Enc.size
  one := Enc.one
  good h x := Deep.good h x.ns
  ent x := Deep.ent x.ns
  good_of h x hs := Deep.good_of h x.ns hs
  mono w w' x := Deep.mono w w' x.ns
instance : FlatT Tri tcells 2 := ⟨rfl, fun _ => rfl⟩
instance {w0 : World} {L : List Ent} {x : Tri} [q : HdD w0 L x] : HdD w0 L x.ns := ⟨q.h⟩
instance {w0 : World} {L : List Ent} {b : Int} {s : Sl Nd} [q : HdD w0 L s] : HdD w0 L (Tri.mk b s) := ⟨q.h⟩
instance {w0 : World} {L : List Ent} {x : Tri} [q : HdD w0 L x] : Hd w0 L x.ns.sv ncells 48 x.ns.xs := (inferInstance : Hd w0 L x.ns.sv ncells 48 x.ns.xs)
instance {L R : List Ent} {x : Tri} [k : Take L x.ns R] : Take L x R := ⟨k.h⟩
instance {L R : List Ent} {i : Int} {b : Sl Nd} [k : Take L b R] : Take L (Tri.mk i b) R := ⟨k.h⟩
end Go.Kb
namespace Go.Eng
open Go.Kb
section
variable {P : Program} {N : Fra} {w0 : World} {env : Env} {L : List Ent} {d : Option Tmp} {ty : TypeId} {ps : String} {af : Array Edge} {gd : Option (Nat × Bool)}
theorem ry_nilp {x : Operand} {a : Addr} (hx : ev env x = some (.pointer (some a))) : Ry P N w0 env L ⟨d, .nilCheck x, ty, ps, af, gd⟩ (.pointer (some a)) := fun _ w ha _ => by
  simp only [execOp, ha.ev hx, Sem.run_pure]
variable {s : Sv} {xs : List Nd} {a : Nd}
/-! What is read of a node in a slice. -/
theorem ry_nx {t : TypeId} {x : Operand} {p : Nat} [ht : OneT P t] [q : Hd w0 L s ncells 48 xs] (hx : ev env x = some (.pointer (some ⟨s.b, p, none⟩))) (i : Nat) (hi : xs[i]? = some a) (b : Nat) (hb : b < 16) (hp' : p = s.o + i * 48 + 32 + b) :
    Ry P N w0 env L ⟨d, .load t x, ty, ps, af, gd⟩ (.int .i64 (a.nx b)) := ry_elemc (j := 32 + b) hx q.h hi (by omega) (by omega) (ncells_nx a hb)
theorem ry_slen {t : TypeId} {x : Operand} {p : Nat} [ht : OneT P t] [q : Hd w0 L s ncells 48 xs] (hx : ev env x = some (.pointer (some ⟨s.b, p, none⟩))) (i : Nat) (hi : xs[i]? = some a) (b : Nat) (hb : b < 16) (hp' : p = s.o + i * 48 + b * 2) :
    Ry P N w0 env L ⟨d, .load t x, ty, ps, af, gd⟩ (.int .i64 (a.sl b).len) := ry_elemc (j := b * 2) hx q.h hi (by omega) (by omega) (ncells_len a hb)
theorem ry_shop {t : TypeId} {x : Operand} {p : Nat} [ht : OneT P t] [q : Hd w0 L s ncells 48 xs] (hx : ev env x = some (.pointer (some ⟨s.b, p, none⟩))) (i : Nat) (hi : xs[i]? = some a) (b : Nat) (hb : b < 16) (hp' : p = s.o + i * 48 + b * 2 + 1) :
    Ry P N w0 env L ⟨d, .load t x, ty, ps, af, gd⟩ (.int .u16 (a.sl b).hop.toNat) := ry_elemc (j := b * 2 + 1) hx q.h hi (by omega) (by omega) (ncells_hop a hb)
theorem ry_slot {t : TypeId} {x : Operand} {p : Nat} [ht : RowT P t 2] [q : Hd w0 L s ncells 48 xs] (hx : ev env x = some (.pointer (some ⟨s.b, p, none⟩))) (i : Nat) (hi : xs[i]? = some a) (b : Nat) (hb : b < 16) (hp' : p = s.o + i * 48 + b * 2) :
    Ry P N w0 env L ⟨d, .load t x, ty, ps, af, gd⟩ (.agg (slcells (a.sl b))) :=
  have := ncells_sl a hb
  ry_elemp (j := b * 2) hx q.h hi (by omega) (by omega)
/-! .. of one in a block. -/
theorem ry_bnx {t T : TypeId} {x : Operand} {p k i : Nat} [ht : OneT P t] [q : Has L k (ncells a) T i] (hx : ev env x = some (.pointer (some ⟨k, p, none⟩))) (b : Nat) (hb : b < 16) (hp' : p = 32 + b) :
    Ry P N w0 env L ⟨d, .load t x, ty, ps, af, gd⟩ (.int .i64 (a.nx b)) := ry_cell hx (by rw [hp']; exact ncells_nx a hb)
theorem ry_bslen {t T : TypeId} {x : Operand} {p k i : Nat} [ht : OneT P t] [q : Has L k (ncells a) T i] (hx : ev env x = some (.pointer (some ⟨k, p, none⟩))) (b : Nat) (hb : b < 16) (hp' : p = b * 2) :
    Ry P N w0 env L ⟨d, .load t x, ty, ps, af, gd⟩ (.int .i64 (a.sl b).len) := ry_cell hx (by rw [hp']; exact ncells_len a hb)
theorem ry_bshop {t T : TypeId} {x : Operand} {p k i : Nat} [ht : OneT P t] [q : Has L k (ncells a) T i] (hx : ev env x = some (.pointer (some ⟨k, p, none⟩))) (b : Nat) (hb : b < 16) (hp' : p = b * 2 + 1) :
    Ry P N w0 env L ⟨d, .load t x, ty, ps, af, gd⟩ (.int .u16 (a.sl b).hop.toNat) := ry_cell hx (by rw [hp']; exact ncells_hop a hb)
theorem ry_bslot {t T : TypeId} {x : Operand} {p k i : Nat} [ht : RowT P t 2] [q : Has L k (ncells a) T i] (hx : ev env x = some (.pointer (some ⟨k, p, none⟩))) (b : Nat) (hb : b < 16) (hp' : p = b * 2) :
    Ry P N w0 env L ⟨d, .load t x, ty, ps, af, gd⟩ (.agg (slcells (a.sl b))) := by
  subst hp'
  have := ncells_sl a hb
  exact ry_part hx
end
section
variable {P : Program} {N : Fra} {w0 : World} {env : Env} {L : List Ent} {l : List Oper} {Q : Exit → Act → World → Prop} {rest : List Oper} {ty : TypeId} {ps : String} {af : Array Edge}
variable {s : Sv} {xs : List Nd} {a : Nd}
/-! What is written. -/
theorem sq_stNx {t : TypeId} {x y : Operand} {i k p : Nat} {v : Int} [ht : OneT P t] (hx : ev env x = some (.pointer (some ⟨s.b, p, none⟩))) (hy : ev env y = some (.int .i64 v)) [q : Owns L s ncells 48 xs i] (ha : xs[k]? = some a) (b : Nat) (hb : b < 16) (hp' : p = s.o + k * 48 + 32 + b) {L' : List Ent} [hu : Upd L i (own ncells 48 s (xs.set k (a.setNx b v))) L'] (hk : Sq P N w0 l Q rest env L') :
    Sq P N w0 l Q (⟨none, .store t x y, ty, ps, af, none⟩ :: rest) env L :=
  sq_storeS (j := 32 + b) (n := 1) (a' := a.setNx b v) ht.size hx hy (q := q) (by omega) ha (by simp [Value.cells, Value.oneCell']) rfl (by omega) (over_nx a hb v) hk
theorem sq_stSl {t : TypeId} {x y : Operand} {i k p : Nat} {v : Slt} [ht : RowT P t 2] (hx : ev env x = some (.pointer (some ⟨s.b, p, none⟩))) (hy : ev env y = some (.agg (slcells v))) [q : Owns L s ncells 48 xs i] (ha : xs[k]? = some a) (b : Nat) (hb : b < 16) (hp' : p = s.o + k * 48 + b * 2) {L' : List Ent} [hu : Upd L i (own ncells 48 s (xs.set k (a.setSl b v))) L'] (hk : Sq P N w0 l Q rest env L') :
    Sq P N w0 l Q (⟨none, .store t x y, ty, ps, af, none⟩ :: rest) env L :=
  sq_storeS (j := b * 2) (n := 2) (a' := a.setSl b v) ht.size hx hy (q := q) (by omega) ha (Enc.one v) rfl (by omega) (over_sl a hb v) hk
theorem sq_stI {t : TypeId} {x y : Operand} {i k p : Nat} {s : Sv} {xs : List Int} {a v : Int} [ht : OneT P t] (hx : ev env x = some (.pointer (some ⟨s.b, p, none⟩))) (hy : ev env y = some (.int .i64 v)) [q : Owns L s iec 1 xs i] (ha : xs[k]? = some a) (hp' : p = s.o + k * 1) {L' : List Ent} [hu : Upd L i (own iec 1 s (xs.set k v)) L'] (hk : Sq P N w0 l Q rest env L') :
    Sq P N w0 l Q (⟨none, .store t x y, ty, ps, af, none⟩ :: rest) env L :=
  sq_storeS (j := 0) (n := 1) (a' := v) ht.size hx hy (q := q) (by omega) ha (by simp [Value.cells, Value.oneCell']) rfl (by omega) (by rfl) hk
theorem sq_stB {t : TypeId} {x y : Operand} {i k p : Nat} {s : Sv} {xs : List Bool} {a v : Bool} [ht : OneT P t] (hx : ev env x = some (.pointer (some ⟨s.b, p, none⟩))) (hy : ev env y = some (.bool v)) [q : Owns L s bec 1 xs i] (ha : xs[k]? = some a) (hp' : p = s.o + k * 1) {L' : List Ent} [hu : Upd L i (own bec 1 s (xs.set k v)) L'] (hk : Sq P N w0 l Q rest env L') :
    Sq P N w0 l Q (⟨none, .store t x y, ty, ps, af, none⟩ :: rest) env L :=
  sq_storeS (j := 0) (n := 1) (a' := v) ht.size hx hy (q := q) (by omega) ha (by simp [Value.cells, Value.oneCell']) rfl (by omega) (by rfl) hk
theorem sq_bstNx {t T : TypeId} {x y : Operand} {i k p : Nat} {v : Int} [ht : OneT P t] (hx : ev env x = some (.pointer (some ⟨k, p, none⟩))) (hy : ev env y = some (.int .i64 v)) [q : Has L k (ncells a) T i] (b : Nat) (hb : b < 16) (hp' : p = 32 + b) {L' : List Ent} [hu : Upd L i (blk k (ncells (a.setNx b v)) T) L'] (hk : Sq P N w0 l Q rest env L') :
    Sq P N w0 l Q (⟨none, .store t x y, ty, ps, af, none⟩ :: rest) env L := by
  subst hp'
  refine sq_store (cs' := ncells (a.setNx b v)) hx hy (by rw [ncells_size]; omega) rfl ?_ hk
  rw [← over_nx a hb v]
  refine Array.ext_getElem? fun j => ?_
  rw [cells_over (by rw [ncells_size]; simp; omega), Array.getElem?_setIfInBounds]
  have e1 : (#[Value.int .i64 v] : Array Value).size = 1 := rfl
  by_cases h : 32 + b = j
  · subst h
    rw [if_pos rfl, if_pos (by rw [ncells_size]; omega), if_pos (by rw [e1]; omega), Nat.sub_self]; rfl
  · rw [if_neg h, if_neg (by rw [e1]; omega)]
theorem sq_bstSl {t T : TypeId} {x y : Operand} {i k p : Nat} {v : Slt} [ht : RowT P t 2] (hx : ev env x = some (.pointer (some ⟨k, p, none⟩))) (hy : ev env y = some (.agg (slcells v))) [q : Has L k (ncells a) T i] (b : Nat) (hb : b < 16) (hp' : p = b * 2) {L' : List Ent} [hu : Upd L i (blk k (ncells (a.setSl b v)) T) L'] (hk : Sq P N w0 l Q rest env L') :
    Sq P N w0 l Q (⟨none, .store t x y, ty, ps, af, none⟩ :: rest) env L := by
  subst hp'
  exact sq_storeN hx hy (by rw [ncells_size]; omega) (over_sl a hb v) hk
end
end Go.Eng

/- Stores into a trie's nodes, as steps of a line; a call's memory, two entries of it in front. -/
namespace Go.Eng
open Go.Kb Go.RowKit
theorem mem_one {w0 w : World} {L R : List Ent} {e : Ent} {i : Nat} (q : L[i]? = some e) (d : L.eraseIdx i = R) (h : Mem w0 L w) : Mem w0 (e :: R) w := by
  have := h.perm (perm_erase q); rwa [d] at this
theorem mem_two {w0 w : World} {L R1 R2 : List Ent} {e1 e2 : Ent} {i j : Nat} (h1 : L[i]? = some e1) (d1 : L.eraseIdx i = R1) (h2 : R1[j]? = some e2) (d2 : R1.eraseIdx j = R2) (h : Mem w0 L w) : Mem w0 (e1 :: e2 :: R2) w := by
  subst d1; subst d2
  exact h.perm ((perm_erase h1).trans ((perm_erase h2).cons _))
theorem shl_open {p : Pfx} (h : pmay p = true) : IntKind.i64.wrap (1 * 2 ^ min (4 - (p.len - 4 * ((lastN p : Nat) : Int))).toNat IntKind.i64.bits) = ((2 ^ openN p : Nat) : Int) := by
  obtain ⟨h1, h2⟩ := openN_eq h
  have e : (4 - (p.len - 4 * ((lastN p : Nat) : Int))).toNat = openN p := rfl
  rw [e]
  generalize openN p = x at h1
  match x, h1 with
  | 0, _ => rfl
  | 1, _ => rfl
  | 2, _ => rfl
  | 3, _ => rfl
  | 4, _ => rfl
instance (priority := low) Keep.drop {L L' : List Ent} {e : Ent} [k : Keep L L'] : Keep (e :: L) L' := ⟨by
  obtain ⟨R, hR⟩ := k.h
  exact ⟨e :: R, (hR.cons e).trans List.perm_middle.symm⟩⟩
section
variable {P : Program} {N : Fra} {w0 : World} {env : Env} {L : List Ent} {Q : Exit → Act → World → Prop} {d : Option Tmp} {ty : TypeId} {ps : String} {af : Array Edge} {gd : Option (Nat × Bool)} {K : Value → List Ent → Prop}
theorem Ry.to {o : Oper} {v v' : Value} (h : Ry P N w0 env L o v) (e : v = v') : Ry P N w0 env L o v' := e ▸ h
theorem yl_fcall {f : FuncId} {x : Operand} {caps : Array Value} {xs : List Operand} {ts : Array TypeId} {vs : List Value} {v : Value} [hf : IsFn P f] (hx : ev env x = some (.func (.func f) #[] caps)) (hxs : evl env xs = some vs)
    (hc : ∀ w, Mem w0 L w → Calls P f (vs ++ caps.toList).toArray w fun e w' => e = .returned v ∧ Mem w [] w') :
    Yl P N w0 env L ⟨d, .call { callee := .value x, args := xs.toArray, argTypes := ts }, ty, ps, af, gd⟩ v := fun a ha w hw => by
  unfold Oper.quietAt
  obtain ⟨fn, h1, h2, h3⟩ := hf.fn
  have h2' : ¬ fn.body = none := fun e => by simp [e] at h2
  have h3' : ¬ fn.name = "runtime.NumGoroutine" := by simpa using h3
  have e : (execOp a.eval ⟨d, .call { callee := .value x, args := xs.toArray, argTypes := ts }, ty, ps, af, gd⟩).run P w = .ok (.enter f (vs ++ caps.toList).toArray) w := by
    have hm := ha.evl hxs
    simp [execOp, resolve, ha.ev hx, Deferred.ofValue, invoke, callFunc, h1, h2', h3', Result.andThen, ← hm]
  rw [e]
  exact ⟨rfl, hc w hw⟩
theorem ry_mkfunc {f : Fn} {xs : List Operand} {vs : List Value} (hx : evl env xs = some vs) : Ry P N w0 env L ⟨d, .makeFunc f #[] xs.toArray, ty, ps, af, gd⟩ (.func f #[] vs.toArray) := fun a w ha _ => by
  have hm := ha.evl hx
  simp [execOp, Instr.makeFunc, Result.andThen, ← hm]
instance (s : Sv) : CellAt (senc s) 0 s.val := ⟨rfl⟩
instance (s : Sv) : CellAt s.val.cells 0 s.val := ⟨by rw [Sv.cells_val]; rfl⟩
variable {s : Sv} {xs : List Nd} {a : Nd}
theorem st_stNx {t : TypeId} {x y : Operand} {i k p : Nat} {v : Int} [ht : OneT P t] (hx : ev env x = some (.pointer (some ⟨s.b, p, none⟩))) (hy : ev env y = some (.int .i64 v)) [q : Owns L s ncells 48 xs i] (ha : xs[k]? = some a) (b : Nat) (hb : b < 16) (hp' : p = s.o + k * 48 + 32 + b) {L' : List Ent} [hu : Upd L i (own ncells 48 s (xs.set k (a.setNx b v))) L'] (hk : K undef (L')) :
    Stp P N w0 env L ⟨none, .store t x y, ty, ps, af, none⟩ K :=
  st_storeS (j := 32 + b) (n := 1) (a' := a.setNx b v) ht.size hx hy (q := q) (by omega) ha (by simp [Value.cells, Value.oneCell']) rfl (by omega) (over_nx a hb v) hk
theorem st_stSl {t : TypeId} {x y : Operand} {i k p : Nat} {v : Slt} [ht : RowT P t 2] (hx : ev env x = some (.pointer (some ⟨s.b, p, none⟩))) (hy : ev env y = some (.agg (slcells v))) [q : Owns L s ncells 48 xs i] (ha : xs[k]? = some a) (b : Nat) (hb : b < 16) (hp' : p = s.o + k * 48 + b * 2) {L' : List Ent} [hu : Upd L i (own ncells 48 s (xs.set k (a.setSl b v))) L'] (hk : K undef (L')) :
    Stp P N w0 env L ⟨none, .store t x y, ty, ps, af, none⟩ K :=
  st_storeS (j := b * 2) (n := 2) (a' := a.setSl b v) ht.size hx hy (q := q) (by omega) ha (Enc.one v) rfl (by omega) (over_sl a hb v) hk
theorem st_stI {t : TypeId} {x y : Operand} {i k p : Nat} {s : Sv} {xs : List Int} {a v : Int} [ht : OneT P t] (hx : ev env x = some (.pointer (some ⟨s.b, p, none⟩))) (hy : ev env y = some (.int .i64 v)) [q : Owns L s iec 1 xs i] (ha : xs[k]? = some a) (hp' : p = s.o + k * 1) {L' : List Ent} [hu : Upd L i (own iec 1 s (xs.set k v)) L'] (hk : K undef (L')) :
    Stp P N w0 env L ⟨none, .store t x y, ty, ps, af, none⟩ K :=
  st_storeS (j := 0) (n := 1) (a' := v) ht.size hx hy (q := q) (by omega) ha (by simp [Value.cells, Value.oneCell']) rfl (by omega) (by rfl) hk
theorem st_stB {t : TypeId} {x y : Operand} {i k p : Nat} {s : Sv} {xs : List Bool} {a v : Bool} [ht : OneT P t] (hx : ev env x = some (.pointer (some ⟨s.b, p, none⟩))) (hy : ev env y = some (.bool v)) [q : Owns L s bec 1 xs i] (ha : xs[k]? = some a) (hp' : p = s.o + k * 1) {L' : List Ent} [hu : Upd L i (own bec 1 s (xs.set k v)) L'] (hk : K undef (L')) :
    Stp P N w0 env L ⟨none, .store t x y, ty, ps, af, none⟩ K :=
  st_storeS (j := 0) (n := 1) (a' := v) ht.size hx hy (q := q) (by omega) ha (by simp [Value.cells, Value.oneCell']) rfl (by omega) (by rfl) hk
theorem st_bstNx {t T : TypeId} {x y : Operand} {i k p : Nat} {v : Int} [ht : OneT P t] (hx : ev env x = some (.pointer (some ⟨k, p, none⟩))) (hy : ev env y = some (.int .i64 v)) [q : Has L k (ncells a) T i] (b : Nat) (hb : b < 16) (hp' : p = 32 + b) {L' : List Ent} [hu : Upd L i (blk k (ncells (a.setNx b v)) T) L'] (hk : K undef (L')) :
    Stp P N w0 env L ⟨none, .store t x y, ty, ps, af, none⟩ K := by
  subst hp'
  refine st_store (cs' := ncells (a.setNx b v)) hx hy (by rw [ncells_size]; omega) rfl ?_ hk
  rw [← over_nx a hb v]
  refine Array.ext_getElem? fun j => ?_
  rw [cells_over (by rw [ncells_size]; simp; omega), Array.getElem?_setIfInBounds]
  have e1 : (#[Value.int .i64 v] : Array Value).size = 1 := rfl
  by_cases h : 32 + b = j
  · subst h
    rw [if_pos rfl, if_pos (by rw [ncells_size]; omega), if_pos (by rw [e1]; omega), Nat.sub_self]; rfl
  · rw [if_neg h, if_neg (by rw [e1]; omega)]
theorem st_bstSl {t T : TypeId} {x y : Operand} {i k p : Nat} {v : Slt} [ht : RowT P t 2] (hx : ev env x = some (.pointer (some ⟨k, p, none⟩))) (hy : ev env y = some (.agg (slcells v))) [q : Has L k (ncells a) T i] (b : Nat) (hb : b < 16) (hp' : p = b * 2) {L' : List Ent} [hu : Upd L i (blk k (ncells (a.setSl b v)) T) L'] (hk : K undef (L')) :
    Stp P N w0 env L ⟨none, .store t x y, ty, ps, af, none⟩ K := by
  subst hp'
  exact st_storeN hx hy (by rw [ncells_size]; omega) (over_sl a hb v) hk
end
end Go.Eng

/- Is a table right: walked. -/
namespace Go.Proofs.Ytklhkejhndnhbaa
open Go.Eng Go.Kb
set_option maxRecDepth 20000 in
theorem right_c (w : World) (s : Sv) (xs : List Rt) (hs : Lies rcells 19 (hp w) s xs) : Calls Try.prog 6 #[s.val] w fun e w' => e = .returned (.bool (tright xs)) ∧ Mem w [] w' := by
 refine calls_of (args := [_]) Try.func6 rfl Try.ntmps6 rfl ?_
 change Cw _ _ _ _ _ [(0, s.val)] []
 refine cw_seq ?_
 refine cw_region ?_
 refine sq_r (ry_assign rfl) ?_
 refine sq_nil ?_
 refine ex_then ?_
 refine cw_seq ?_
 refine cw_seq ?_
 refine cw_region ?_
 refine sq_r (ry_move rfl) ?_
 refine sq_r (ry_lenS rfl hs.ok hs.len) ?_
 refine sq_r (ry_int rfl rfl rfl) ?_
 refine sq_nil ?_
 refine ex_then ?_
 refine cw_cond rfl (fun h0 => ?_) (fun h0 => ?_)
 ·
  simp only [decide_eq_true_eq] at h0
  refine cw_seq ?_
  refine cw_region ?_
  refine sq_r (ry_assign rfl) ?_
  refine sq_nil ?_
  refine ex_then ?_
  refine cw_ret ?_
  refine ex_pass_ret ?_
  refine ex_ret (.inl rfl) (res_tmp rfl rfl) (fun w hw => ?_)
  exact ⟨congrArg (fun b => Ending.returned (Value.bool b)) ((tright_long (by omega)).symm), hw.sub (List.nil_sublist _)⟩
 ·
  simp only [decide_eq_false_iff_not] at h0
  refine cw_skip ?_
  refine ex_then ?_
  refine cw_seq ?_
  refine cw_seq ?_
  refine cw_region ?_
  refine sq_r (ry_move rfl) ?_
  refine sq_r (ry_lenS rfl hs.ok hs.len) ?_
  refine sq_r (ry_move rfl) ?_
  refine sq_nil ?_
  refine ex_then ?_
  refine cw_block ?_
  refine cw_loop (X := Nat) (fun i => [(10, .int .i64 (i : Nat)), (9, .int .i64 (xs.length : Nat)), (8, s.val), (0, s.val)]) (fun i => []) (fun i => i ≤ xs.length ∧ okTo xs i = true) (fun i => xs.length - i) 0 ⟨by omega, okTo_zero xs⟩ (Sub.cons rfl (Sub.cons rfl (Sub.cons rfl (Sub.cons rfl (Sub.nil _))))) (fun w hw => hw) ?_
  rintro i ⟨hi1, hi2⟩
  refine cw_seq ?_
  refine cw_region ?_
  refine sq_r (ry_int rfl rfl rfl) ?_
  refine sq_nil ?_
  refine ex_then ?_
  refine cw_seq ?_
  refine cw_cond rfl (fun h1 => ?_) (fun h1 => ?_)
  ·
   simp only [decide_eq_true_eq] at h1
   have hlt : i < xs.length := by omega
   obtain ⟨r, hr⟩ := get_some hlt
   obtain ⟨q, hq⟩ := get_some (xs := xs) (i := i - 1) (by omega)
   refine cw_skip ?_
   refine ex_then ?_
   refine cw_seq ?_
   refine cw_block ?_
   refine cw_seq ?_
   refine cw_region ?_
   refine sq_r (ry_move rfl) ?_
   refine sq_r (ry_idxSv rfl rfl rfl hs.ok (by rw [hs.len]; omega)) ?_
   refine sq_r (ry_elem rfl (holds_given hs) hr rfl) ?_
   refine sq_allocA fun b4 => ?_
   refine sq_r (ry_assign rfl) ?_
   refine sq_storeW rfl rfl ?_
   refine sq_nil ?_
   refine ex_then ?_
   refine cw_seq ?_
   refine cw_seq ?_
   refine cw_region ?_
   refine sq_r (ry_field (o' := 0) rfl rfl) ?_
   refine sq_r (ry_part rfl) ?_
   refine sq_y (yl_pure rfl) ?_
   refine sq_r (ry_not rfl) ?_
   refine sq_nil ?_
   refine ex_then ?_
   refine cw_cond rfl (fun h2 => ?_) (fun h2 => ?_)
   ·
    refine cw_seq ?_
    refine cw_region ?_
    refine sq_r (ry_assign rfl) ?_
    refine sq_nil ?_
    refine ex_then ?_
    refine cw_ret ?_
    refine ex_pass_ret ?_
    refine ex_block_ret ?_
    refine ex_pass_ret ?_
    refine ex_pass_ret ?_
    refine ex_block_ret ?_
    refine ex_pass_ret ?_
    refine ex_ret (.inl rfl) (res_tmp rfl rfl) (fun w hw => ?_)
    exact ⟨congrArg (fun b => Ending.returned (Value.bool b)) ((tright_no hlt (okAt_may hr (by simpa using h2))).symm), hw.sub (List.nil_sublist _)⟩
   ·
    refine cw_skip ?_
    refine ex_then ?_
    refine cw_seq ?_
    refine cw_quiet (by kernel_rfl) (by kernel_rfl) ?_
    refine qt_r (ry_move rfl) ?_
    refine qt_r (ry_int rfl rfl rfl) ?_
    refine qt_r (ry_move rfl) ?_
    refine qt_gt rfl rfl rfl (fun hg => (ry_move rfl).yl) ?_
    refine qt_gt rfl rfl rfl (fun hg => (ry_move rfl).yl) ?_
    refine qt_gt rfl rfl rfl (fun hg => (ry_sub (ev_c hg rfl) rfl (by omega)).yl) ?_
    refine qt_gt rfl rfl rfl (fun hg => (ry_idxSv (i := i - 1) (ev_c hg rfl) (ev_c hg rfl) (by have := of_decide_eq_true hg; omega) hs.ok (by rw [hs.len]; omega)).yl) ?_
    refine qt_gt rfl rfl rfl (fun hg => (ry_field (ev_c hg rfl) rfl).yl) ?_
    refine qt_gt rfl rfl rfl (fun hg => (ry_elemp (j := 0) (ev_c hg rfl) (holds_given hs) hq rfl (by decide)).yl) ?_
    refine qt_gt rfl rfl rfl (fun hg => (ry_field (o' := 0) rfl rfl).yl) ?_
    refine qt_gt rfl rfl rfl (fun hg => (ry_part (ev_c hg rfl)).yl) ?_
    refine qt_gt rfl rfl rfl (fun hg => yl_pure (evl_cons (ev_c hg rfl) (evl_cons (ev_c hg rfl) evl_nil))) ?_
    refine qt_gt rfl rfl rfl (fun hg => (ry_not (ev_c hg rfl)).yl) ?_
    refine qt_r (ry_and rfl rfl rfl) ?_
    refine qt_nil ?_
    refine ex_then ?_
    refine cw_cond rfl (fun h3 => ?_) (fun h3 => ?_)
    ·
     refine cw_seq ?_
     refine cw_region ?_
     refine sq_r (ry_assign rfl) ?_
     refine sq_nil ?_
     refine ex_then ?_
     refine cw_ret ?_
     refine ex_block_ret ?_
     refine ex_pass_ret ?_
     refine ex_pass_ret ?_
     refine ex_block_ret ?_
     refine ex_pass_ret ?_
     refine ex_ret (.inl rfl) (res_tmp rfl rfl) (fun w hw => ?_)
     exact ⟨congrArg (fun b => Ending.returned (Value.bool b)) ((tright_no hlt (by rw [okAt_eq hr hq, h3]; simp)).symm), hw.sub (List.nil_sublist _)⟩
    ·
     refine cw_skip ?_
     refine ex_block ?_
     refine ex_then ?_
     refine cw_region ?_
     refine sq_r (ry_add rfl rfl (by omega)) ?_
     refine sq_r (ry_move rfl) ?_
     refine sq_nil ?_
     exact ex_again (i + 1) ⟨by omega, by rw [okTo_succ, hi2, okAt_eq hr hq, h3]; simpa using h2⟩ (by omega) (Sub.cons rfl (Sub.cons rfl (Sub.cons rfl (Sub.cons rfl (Sub.nil _))))) (fun w hw => hw.sub (List.nil_sublist _))
  ·
   simp only [decide_eq_false_iff_not] at h1
   refine cw_exit ?_
   refine ex_pass_exit ?_
   refine ex_pass_exit ?_
   refine ex_block_hit ?_
   refine ex_then ?_
   refine cw_seq ?_
   refine cw_region ?_
   refine sq_r (ry_assign rfl) ?_
   refine sq_nil ?_
   refine ex_then ?_
   refine cw_ret ?_
   refine ex_ret (.inl rfl) (res_tmp rfl rfl) (fun w hw => ?_)
   exact ⟨congrArg (fun b => Ending.returned (Value.bool b)) ((tright_all (by omega) (by rwa [show i = xs.length by omega] at hi2)).symm), hw.sub (List.nil_sublist _)⟩



end Go.Proofs.Ytklhkejhndnhbaa

/- Routes as bytes. No program in sight. -/
namespace Go.Kb
open Go.Eng

def b8i (n : Int) : UInt8 := b8 (n % 256).toNat
theorem b8i_nat (n : Nat) : b8i (n : Int) = b8 n := by
  unfold b8i
  rw [show ((n : Int) % 256).toNat = n % 256 by omega, b8_mod]
theorem wrap_b8i (n : Int) : IntKind.u8.wrap n = ((b8i n).toNat : Int) := by
  unfold b8i
  rw [b8_toNat]; simp [IntKind.wrap, IntKind.bits, IntKind.signed]; omega
def rbytes (r : Rt) : List UInt8 :=
  [if r.p.bits = 128 then 1 else 0, b8i r.p.len] ++ (List.range 16).map (fun i => b8 (kbyte r.p.key i)) ++ [b8 (r.hop.toNat / 256), b8 r.hop.toNat]
theorem rbytes_length (r : Rt) : (rbytes r).length = 20 := by simp [rbytes]
theorem rbytes_0 (r : Rt) : (rbytes r)[0]? = some (if r.p.bits = 128 then 1 else 0) := by simp [rbytes]
theorem rbytes_1 (r : Rt) : (rbytes r)[1]? = some (b8i r.p.len) := by simp [rbytes]
theorem rbytes_k (r : Rt) (i : Nat) (h : i < 16) : (rbytes r)[2 + i]? = some (b8 (kbyte r.p.key i)) := by
  unfold rbytes
  rw [List.append_assoc, List.getElem?_append_right (by simp), List.getElem?_append_left (by simp; omega)]
  simp [h]
theorem rbytes_18 (r : Rt) : (rbytes r)[18]? = some (b8 (r.hop.toNat / 256)) := by simp [rbytes]
theorem rbytes_19 (r : Rt) : (rbytes r)[19]? = some (b8 r.hop.toNat) := by simp [rbytes]

theorem laid_cells (r : Rt) {cs0 : Array Value} (h0 : cs0.size = 20) (hz : cs0[0]? = some (.int .u8 (if r.p.bits = 128 then 1 else 0 : Nat))) :
    (((over (cs0.setIfInBounds 1 (.int .u8 (b8i r.p.len).toNat)) 2 (kcells r.p.key)).setIfInBounds 18 (.int .u8 (b8 (r.hop.toNat / 256)).toNat)).setIfInBounds 19 (.int .u8 (b8 r.hop.toNat).toNat)) = (flatR benc (rbytes r)).toArray := by
  have hs : (over (cs0.setIfInBounds 1 (.int .u8 (b8i r.p.len).toNat)) 2 (kcells r.p.key)).size = 20 := by rw [over_size (by simp [kcells_size, h0])]; simpa using h0
  refine Array.ext_getElem? fun j => ?_
  have hf : ∀ b, (rbytes r)[j]? = some b → (flatR benc (rbytes r)).toArray[j]? = some (.int .u8 b.toNat) := fun b hb => by
    have := flatR_get (enc := benc) (rbytes r) j b hb 0 (by decide)
    simp only [Nat.mul_one, Nat.add_zero] at this
    simpa [benc] using this
  have hk : 2 + (kcells r.p.key).size ≤ (cs0.setIfInBounds 1 (.int .u8 (b8i r.p.len).toNat)).size := by simp [kcells_size, h0]
  rw [Array.getElem?_setIfInBounds, Array.getElem?_setIfInBounds]
  by_cases h19 : 19 = j
  · subst h19; rw [hf _ (rbytes_19 r)]; simp [hs]
  by_cases h18 : 18 = j
  · subst h18; rw [hf _ (rbytes_18 r)]; simp [hs]
  rw [if_neg h19, if_neg h18, cells_over hk, kcells_size]
  by_cases h2 : 2 ≤ j ∧ j < 2 + 16
  · rw [if_pos h2, kcells_get _ _ (by omega)]
    have := rbytes_k r (j - 2) (by omega)
    rw [show 2 + (j - 2) = j by omega] at this
    rw [hf _ this, b8_toNat]
    have := kbyte_lt r.p.key (j - 2)
    rw [Nat.mod_eq_of_lt this]
  rw [if_neg h2, Array.getElem?_setIfInBounds]
  by_cases h1 : 1 = j
  · subst h1; rw [hf _ (rbytes_1 r)]; simp [h0]
  rw [if_neg h1]
  by_cases hj : j = 0
  · subst hj
    rw [hz, hf _ (rbytes_0 r)]
    split <;> rfl
  · have e1 : cs0[j]? = none := by simp; omega
    rw [e1]
    have : (flatR benc (rbytes r)).length = 20 := by rw [flatR_length, rbytes_length]
    simp; omega

def rpre (r : Rt) (i : Nat) : List UInt8 := [if r.p.bits = 128 then 1 else 0, b8i r.p.len] ++ (List.range i).map (fun i => b8 (kbyte r.p.key i))
theorem rpre_length (r : Rt) (i : Nat) : (rpre r i).length = i + 2 := by simp [rpre]
theorem rpre_succ (r : Rt) (i : Nat) : rpre r (i + 1) = rpre r i ++ [b8 (kbyte r.p.key i)] := by simp [rpre, List.range_succ]
theorem rpre_all (r : Rt) : rpre r 16 ++ be r.hop.toNat 2 = rbytes r := by simp [rpre, rbytes, be]
theorem rpre_zero (r : Rt) : [if r.p.bits = 128 then 1 else 0] ++ [b8i r.p.len] = rpre r 0 := by simp [rpre]
theorem b8_kbyte (k : Key) (i : Nat) : (kbyte k i : Int) = ((b8 (kbyte k i)).toNat : Int) := by
  rw [b8_toNat, Nat.mod_eq_of_lt (kbyte_lt k i)]
end Go.Kb

/- Tables as bodies of bytes, and back: what is computed. No program in sight. -/
namespace Go.Kb
open Go.Eng

/-! Bodies of a table. -/
def bodyAt (t : List Rt) (n id : Nat) : List UInt8 := ((t.drop (id * n)).take n).flatMap rbytes
def bodiesOf (t : List Rt) (ids n : Nat) : List (List UInt8) := (List.range ids).map (bodyAt t n)
def most (a b : Int) : Int := if a < 1 ∨ 64 < a ∨ b < 20 ∨ 240 < b then 0 else min (a * (b / 20)) 256
def bodiesE (t : List Rt) (ids room : Int) : Int := if tright t = false ∨ most ids room = 0 then 1 else if most ids room < t.length then 5 else 0
def bodiesV (t : List Rt) (ids room : Int) : List (List UInt8) := if bodiesE t ids room = 0 then bodiesOf t ids.toNat (room / 20).toNat else []
theorem bodiesOf_length (t : List Rt) (ids n : Nat) : (bodiesOf t ids n).length = ids := by simp [bodiesOf]
theorem flat_length (l : List Rt) : (l.flatMap rbytes).length = 20 * l.length := by
  induction l with
  | nil => rfl
  | cons a l ih => rw [List.flatMap_cons, List.length_append, ih, rbytes_length, List.length_cons]; omega
theorem bodyAt_length (t : List Rt) (n id : Nat) : (bodyAt t n id).length = 20 * min n (t.length - id * n) := by
  rw [bodyAt, flat_length, List.length_take, List.length_drop]
theorem bodyAt_le (t : List Rt) (n id : Nat) : (bodyAt t n id).length ≤ 20 * n := by rw [bodyAt_length]; omega
theorem most_pos {a b : Int} (h : ¬ most a b = 0) : 1 ≤ a ∧ a ≤ 64 ∧ 20 ≤ b ∧ b ≤ 240 ∧ most a b = min (a * (b / 20)) 256 ∧ 1 ≤ b / 20 ∧ b / 20 ≤ 12 := by
  unfold most at h ⊢
  split at h
  · exact absurd rfl h
  · rename_i hn
    rw [if_neg hn]
    have : 1 ≤ b / 20 ∧ b / 20 ≤ 12 := by omega
    exact ⟨by omega, by omega, by omega, by omega, rfl, this.1, this.2⟩
theorem bodyAt_take {t : List Rt} {r : Rt} {i n id : Nat} (hn : 0 < n) (hr : t[i]? = some r) : bodyAt (t.take (i + 1)) n id = bodyAt (t.take i) n id ++ (if id = i / n then rbytes r else []) := by
  have hlt : i < t.length := (List.getElem?_eq_some_iff.1 hr).1
  have e1 : t.take (i + 1) = t.take i ++ [r] := by rw [List.take_add_one, hr]; rfl
  have hd := Nat.div_add_mod i n
  have hm := Nat.mod_lt i hn
  have hc : n * (i / n) = i / n * n := Nat.mul_comm _ _
  unfold bodyAt
  have l1 : (t.take i).length = i := by rw [List.length_take]; omega
  rw [e1]
  by_cases h1 : id = i / n
  · subst h1
    have e2 : (t.take i ++ [r]).drop (i / n * n) = (t.take i).drop (i / n * n) ++ [r] := List.drop_append_of_le_length (by rw [l1]; omega)
    have e3 : ((t.take i).drop (i / n * n) ++ [r]).take n = (t.take i).drop (i / n * n) ++ [r] := List.take_of_length_le (by rw [List.length_append, List.length_drop, l1]; simp only [List.length_cons, List.length_nil]; omega)
    have e4 : ((t.take i).drop (i / n * n)).take n = (t.take i).drop (i / n * n) := List.take_of_length_le (by rw [List.length_drop, l1]; omega)
    rw [if_pos rfl, e2, e3, e4]
    simp
  · rw [if_neg h1, List.append_nil]
    rcases Nat.lt_or_gt_of_ne h1 with h2 | h2
    · have : (id + 1) * n ≤ i / n * n := Nat.mul_le_mul_right _ h2
      rw [Nat.add_mul] at this
      rw [List.drop_append_of_le_length (by rw [l1]; omega), List.take_append_of_le_length (by rw [List.length_drop, l1]; omega)]
    · have : (i / n + 1) * n ≤ id * n := Nat.mul_le_mul_right _ h2
      rw [Nat.add_mul] at this
      rw [List.drop_eq_nil_of_le (by rw [List.length_append, l1]; simp; omega), List.drop_eq_nil_of_le (by rw [l1]; omega)]
theorem bodiesOf_take {t : List Rt} {r : Rt} {i n ids : Nat} {x : List UInt8} (hn : 0 < n) (hr : t[i]? = some r) (hx : (bodiesOf (t.take i) ids n)[i / n]? = some x) :
    bodiesOf (t.take (i + 1)) ids n = (bodiesOf (t.take i) ids n).set (i / n) (x ++ rbytes r) := by
  refine List.ext_getElem? fun j => ?_
  rw [List.getElem?_set]
  have hk : i / n < ids := by have := (List.getElem?_eq_some_iff.1 hx).1; rwa [bodiesOf_length] at this
  by_cases hj : j < ids
  · have e : ∀ t', (bodiesOf t' ids n)[j]? = some (bodyAt t' n j) := fun t' => by simp [bodiesOf, hj]
    rw [e, bodyAt_take hn hr]
    by_cases h : i / n = j
    · subst h
      rw [e] at hx
      rw [if_pos rfl, if_pos rfl, if_pos (by rw [bodiesOf_length]; exact hk)]
      rw [Option.some.inj hx]
    · rw [if_neg (fun e => h e.symm), if_neg h, List.append_nil, e]
  · rw [List.getElem?_eq_none (by rw [bodiesOf_length]; omega), if_neg (by omega), List.getElem?_eq_none (by rw [bodiesOf_length]; omega)]
theorem bodiesOf_zero (t : List Rt) (ids n : Nat) : bodiesOf (t.take 0) ids n = List.replicate ids [] := by
  refine List.eq_replicate_iff.2 ⟨bodiesOf_length _ _ _, fun x hx => ?_⟩
  obtain ⟨j, _, rfl⟩ := List.mem_map.1 hx
  simp [bodyAt]
theorem bodiesOf_all (t : List Rt) (ids n : Nat) : bodiesOf (t.take t.length) ids n = bodiesOf t ids n := by rw [List.take_length]
def bodyPre (t : List Rt) (a i : Nat) : List UInt8 := ((t.drop a).take (i - a)).flatMap rbytes
theorem bodyPre_self (t : List Rt) (a : Nat) : bodyPre t a a = [] := by simp [bodyPre]
theorem bodyPre_succ {t : List Rt} {a i : Nat} {r : Rt} (h : a ≤ i) (hr : t[i]? = some r) : bodyPre t a (i + 1) = bodyPre t a i ++ rbytes r := by
  unfold bodyPre
  rw [show i + 1 - a = (i - a) + 1 by omega, List.take_add_one, List.getElem?_drop, show a + (i - a) = i by omega, hr]
  simp
theorem bodyPre_length (t : List Rt) (a i : Nat) : (bodyPre t a i).length ≤ 20 * (i - a) := by
  rw [bodyPre, flat_length, List.length_take]; omega
theorem bodyPre_end {t : List Rt} {n id i : Nat} (h : id * n ≤ i) (hi : i ≤ (id + 1) * n) (hd : (id + 1) * n ≤ i ∨ t.length ≤ i) : bodyPre t (id * n) i = bodyAt t n id := by
  unfold bodyPre bodyAt
  congr 1
  rw [Nat.add_mul] at hi hd
  by_cases h1 : i = id * n + n
  · congr 1; omega
  · rw [List.take_of_length_le (by rw [List.length_drop]; omega), List.take_of_length_le (by rw [List.length_drop]; omega)]
theorem bodiesOf_succ (t : List Rt) (id n : Nat) : bodiesOf t (id + 1) n = bodiesOf t id n ++ [bodyAt t n id] := by simp [bodiesOf, List.range_succ]

/-! Bodies that are read. -/
def rdroute (b : List UInt8) : Rt := ⟨⟨if b.getD 0 0 = 1 then 128 else 32, (b.getD 1 0).toNat, kof fun i => (b.getD (2 + i) 0).toNat⟩, UInt16.ofNat ((b.getD 18 0).toNat * 256 + (b.getD 19 0).toNat)⟩
def rd (b : List UInt8) : Option Rt := if b.getD 0 0 ≤ 1 then some (rdroute b) else none
def unbody (b : List UInt8) : Option (List Rt) :=
  if h : b.length < 20 then (if b.length = 0 then some [] else none)
  else match rd (b.take 20), unbody (b.drop 20) with
    | some r, some l => some (r :: l)
    | _, _ => none
termination_by b.length
decreasing_by rw [List.length_drop]; omega
theorem unbody_nil : unbody [] = some [] := by rw [unbody]; simp
theorem unbody_cons {b : List UInt8} (h : 20 ≤ b.length) : unbody b = (rd (b.take 20)).bind fun r => (unbody (b.drop 20)).map (r :: ·) := by
  rw [unbody, dif_neg (by omega)]
  cases rd (b.take 20) <;> simp
  cases unbody (b.drop 20) <;> simp
theorem unbody_mod : ∀ (k : Nat) (b : List UInt8), b.length ≤ k → ¬ b.length % 20 = 0 → unbody b = none
  | 0, b, h, hm => by have : b.length = 0 := by omega
                      rw [this] at hm; simp at hm
  | k + 1, b, h, hm => by
    by_cases h2 : b.length < 20
    · rw [unbody, dif_pos h2, if_neg (fun e => by rw [e] at hm; simp at hm)]
    · rw [unbody_cons (by omega), unbody_mod k (b.drop 20) (by rw [List.length_drop]; omega) (by rw [List.length_drop]; omega)]
      cases rd (b.take 20) <;> rfl
def untable : List (List UInt8) → Option (List Rt)
  | [] => some []
  | b :: r => (unbody b).bind fun l => (untable r).map (l ++ ·)
theorem untable_append : ∀ a b : List (List UInt8), untable (a ++ b) = (untable a).bind fun l => (untable b).map (l ++ ·)
  | [], b => by simp [untable]
  | x :: a, b => by
    rw [List.cons_append, untable, untable, untable_append a b]
    cases unbody x <;> simp
    cases untable a <;> simp
    cases untable b <;> simp
theorem untable_succ {bs : List (List UInt8)} {i : Nat} {b : List UInt8} (h : bs[i]? = some b) : untable (bs.take (i + 1)) = (untable (bs.take i)).bind fun l => (unbody b).map (l ++ ·) := by
  rw [List.take_add_one, h, Option.toList_some, untable_append, untable, untable]
  cases untable (bs.take i) with
  | none => rfl
  | some l => cases unbody b <;> simp
theorem untable_none {bs : List (List UInt8)} {i : Nat} (h : untable (bs.take i) = none) : untable bs = none := by
  rw [← List.take_append_drop i bs, untable_append, h]; rfl
def tabV (bs : List (List UInt8)) : List Rt := match untable bs with
  | some t => if tright t = true then t else []
  | none => []
def tabE (bs : List (List UInt8)) : Int := match untable bs with
  | some t => if tright t = true then 0 else 2
  | none => 2
theorem tab_none {bs : List (List UInt8)} (h : untable bs = none) : tabV bs = [] ∧ tabE bs = 2 := by simp [tabV, tabE, h]
theorem tab_bad {bs : List (List UInt8)} {t : List Rt} (h : untable bs = some t) (hr : tright t = false) : tabV bs = [] ∧ tabE bs = 2 := by simp [tabV, tabE, h, hr]
theorem tab_ok {bs : List (List UInt8)} {t : List Rt} (h : untable bs = some t) (hr : tright t = true) : tabV bs = t ∧ tabE bs = 0 := by simp [tabV, tabE, h, hr]

/-! What changed. -/
def chgAt (a b : List (List UInt8)) (i : Nat) : Option (Int × List UInt8) := if a.getD i [] = b.getD i [] then none else some ((i : Int), b.getD i [])
def chgTo (a b : List (List UInt8)) (n : Nat) : List (Int × List UInt8) := (List.range n).filterMap (chgAt a b)
def chg (a b : List (List UInt8)) : List (Int × List UInt8) := chgTo a b (max a.length b.length)
theorem chgTo_no {a b : List (List UInt8)} {n : Nat} (h : a.getD n [] = b.getD n []) : chgTo a b (n + 1) = chgTo a b n := by
  have e : chgAt a b n = none := by rw [chgAt, if_pos h]
  simp [chgTo, List.range_succ, e]
theorem chgTo_yes {a b : List (List UInt8)} {n : Nat} (h : ¬ a.getD n [] = b.getD n []) : chgTo a b (n + 1) = chgTo a b n ++ [((n : Int), b.getD n [])] := by
  have e : chgAt a b n = some ((n : Int), b.getD n []) := by rw [chgAt, if_neg h]
  simp [chgTo, List.range_succ, e]
theorem chgTo_length (a b : List (List UInt8)) (n : Nat) : (chgTo a b n).length ≤ n := by
  have := List.length_filterMap_le (chgAt a b) (List.range n)
  simpa [chgTo] using this

/-! The cells of a route that is read. -/
def rdok (b : List UInt8) : Bool := decide (b.getD 0 0 ≤ 1)
def rdv (b : List UInt8) : Rt := if rdok b = true then rdroute b else zroute
theorem rd_eq (b : List UInt8) : rd b = if rdok b = true then some (rdroute b) else none := by simp [rd, rdok]
theorem rdroute_hop (b : List UInt8) : (rdroute b).hop = hop16 (b.getD 18 0) (b.getD 19 0) := rfl
theorem unlaid_cells {b : List UInt8} (hb : b.length = 20) (v : Int) (hv : v = if b.getD 0 0 = 1 then 128 else 32) :
    (over (((rcells zroute).setIfInBounds 0 (.int .i64 v)).setIfInBounds 1 (.int .i64 (b.getD 1 0).toNat)) 2 (flatR benc ((b.drop 2).take 16)).toArray).setIfInBounds 18 (.int .u16 (hop16 (b.getD 18 0) (b.getD 19 0)).toNat) = rcells (rdroute b) := by
  have hk : (flatR benc ((b.drop 2).take 16)).toArray.size = 16 := by rw [List.size_toArray, flatR_length, List.length_take, List.length_drop, hb]; rfl
  have h0 : (rcells zroute).size = 19 := rcells_size _
  have hs : 2 + (flatR benc ((b.drop 2).take 16)).toArray.size ≤ (((rcells zroute).setIfInBounds 0 (.int .i64 v)).setIfInBounds 1 (.int .i64 (b.getD 1 0).toNat)).size := by rw [hk]; simp [h0]
  refine Array.ext_getElem? fun j => ?_
  rw [Array.getElem?_setIfInBounds, over_size hs, cells_over hs, hk]
  by_cases h18 : 18 = j
  · subst h18; rw [if_pos rfl, rcells_hop, rdroute_hop]; simp [h0]
  rw [if_neg h18]
  by_cases h2 : 2 ≤ j ∧ j < 2 + 16
  · rw [if_pos h2, rcells_p _ j (by omega), show j = 2 + (j - 2) by omega, pcells_k, kcells_get _ _ (by omega), show 2 + (j - 2) - 2 = j - 2 by omega]
    have hg : ((b.drop 2).take 16)[j - 2]? = some (b.getD j 0) := by
      rw [List.getElem?_take, if_pos (by omega), List.getElem?_drop, show 2 + (j - 2) = j by omega, List.getD, List.getElem?_eq_getElem (by omega)]; rfl
    have := flatR_get (enc := benc) ((b.drop 2).take 16) (j - 2) _ hg 0 (by decide)
    simp only [Nat.mul_one, Nat.add_zero] at this
    rw [show (flatR benc ((b.drop 2).take 16)).toArray[j - 2]? = (flatR benc ((b.drop 2).take 16))[j - 2]? by simp, this]
    have e : kbyte (rdroute b).p.key (j - 2) = (b.getD j 0).toNat := by
      show kbyte (kof fun i => (b.getD (2 + i) 0).toNat) (j - 2) = _
      rw [kbyte_kof _ _ (by omega), show 2 + (j - 2) = j by omega]
      have := (b.getD j 0).toNat_lt; omega
    rw [e]; rfl
  rw [if_neg h2, Array.getElem?_setIfInBounds]
  by_cases h1 : 1 = j
  · subst h1; rw [if_pos rfl, rcells_p _ 1 (by decide), pcells_1]; simp [h0, rdroute]
  rw [if_neg h1, Array.getElem?_setIfInBounds]
  by_cases hj : 0 = j
  · subst hj; rw [if_pos rfl, rcells_p _ 0 (by decide), pcells_0]; simp [h0, rdroute, hv]
  · rw [if_neg hj, Array.getElem?_eq_none (by rw [h0]; omega), Array.getElem?_eq_none (by rw [rcells_size]; omega)]

theorem de_two {xs : List UInt8} {k n : Nat} {a b : UInt8} (ha : xs[k]? = some a) (hb : xs[k + 1]? = some b) (hn : n = k + 2) : de ((xs.drop k).take (n - k)) = (hop16 a b).toNat := by
  have e : (xs.drop k).take (n - k) = [a, b] := by
    refine List.ext_getElem? fun j => ?_
    rw [List.getElem?_take, List.getElem?_drop]
    match j with
    | 0 => rw [if_pos (by omega)]; simpa using ha
    | 1 => rw [if_pos (by omega)]; simpa using hb
    | j + 2 => rw [if_neg (by omega)]; simp
  rw [e, hop16_toNat]; simp [de]
theorem rcells_set0 (r : Rt) (v : Int) : (rcells r).setIfInBounds 0 (.int .i64 v) = rcells ⟨⟨v, r.p.len, r.p.key⟩, r.hop⟩ := by
  refine Array.ext_getElem? fun j => ?_
  rw [Array.getElem?_setIfInBounds]
  have h0 : (rcells r).size = 19 := rcells_size _
  by_cases hj : 0 = j
  · subst hj; rw [if_pos rfl, rcells_p _ 0 (by decide), pcells_0]; simp [h0]
  rw [if_neg hj]
  match j, hj with
  | 1, _ => rw [rcells_p _ 1 (by decide), rcells_p _ 1 (by decide), pcells_1, pcells_1]
  | j + 2, _ =>
    rcases Nat.lt_or_ge j 16 with h | h
    · rw [rcells_p _ _ (by omega), rcells_p _ _ (by omega), Nat.add_comm j 2, pcells_k, pcells_k]
    · by_cases e : j = 16
      · subst e; rw [rcells_hop, rcells_hop]
      · rw [Array.getElem?_eq_none (by rw [h0]; omega), Array.getElem?_eq_none (by rw [rcells_size]; omega)]
def kpre (f : Nat → Nat) (n : Nat) : Key := kof fun j => if j < n then f j else 0
theorem kpre_zero (f : Nat → Nat) : kpre f 0 = 0#128 := by
  refine key_ext_byte fun j hj => ?_
  rw [kpre, kbyte_kof _ _ hj]; simp [kbyte]
theorem kpre_all (f : Nat → Nat) : kpre f 16 = kof f := by
  refine key_ext_byte fun j hj => ?_
  rw [kpre, kbyte_kof _ _ hj, kbyte_kof _ _ hj, if_pos hj]
theorem rcells_kpre {b l : Int} {h : UInt16} {f : Nat → Nat} {n : Nat} (hn : n < 16) (hf : f n < 256) :
    (rcells ⟨⟨b, l, kpre f n⟩, h⟩).setIfInBounds (2 + n) (.int .u8 (f n : Nat)) = rcells ⟨⟨b, l, kpre f (n + 1)⟩, h⟩ := by
  refine Array.ext_getElem? fun j => ?_
  rw [Array.getElem?_setIfInBounds]
  have h0 : ∀ r, (rcells r).size = 19 := rcells_size
  by_cases hj : 2 + n = j
  · subst hj
    have e : kbyte (kpre f (n + 1)) n = f n := by rw [kpre, kbyte_kof _ _ hn, if_pos (by omega)]; exact Nat.mod_eq_of_lt hf
    rw [if_pos rfl, rcells_p _ _ (by omega), pcells_k, kcells_get _ _ hn, if_pos (by rw [h0]; omega)]
    show _ = some (Value.int .u8 (kbyte (kpre f (n + 1)) n : Nat))
    rw [e]
  rw [if_neg hj]
  match j, hj with
  | 0, _ => rw [rcells_p _ 0 (by decide), rcells_p _ 0 (by decide), pcells_0, pcells_0]
  | 1, _ => rw [rcells_p _ 1 (by decide), rcells_p _ 1 (by decide), pcells_1, pcells_1]
  | j + 2, hj =>
    rcases Nat.lt_or_ge j 16 with h | h
    · rw [rcells_p _ _ (by omega), rcells_p _ _ (by omega), Nat.add_comm j 2, pcells_k, pcells_k, kcells_get _ _ h, kcells_get _ _ h, kpre, kpre, kbyte_kof _ _ h, kbyte_kof _ _ h]
      by_cases h1 : j < n
      · rw [if_pos h1, if_pos (by omega)]
      · rw [if_neg h1, if_neg (by omega)]
    · by_cases e : j = 16
      · subst e; rw [rcells_hop, rcells_hop]
      · rw [Array.getElem?_eq_none (by rw [h0]; omega), Array.getElem?_eq_none (by rw [h0]; omega)]
theorem rd_drop {b : List UInt8} {k : Nat} (i : Nat) (hi : i < 20) : ((b.drop k).take 20).getD i 0 = b.getD (k + i) 0 := by
  simp [List.getD, List.getElem?_take, hi, List.getElem?_drop]
theorem unbody_step {b : List UInt8} {k : Nat} (h : k + 20 ≤ b.length) : unbody (b.drop k) = (rd ((b.drop k).take 20)).bind fun r => (unbody (b.drop (k + 20))).map (r :: ·) := by
  rw [unbody_cons (by rw [List.length_drop]; omega), List.drop_drop]
theorem rd_at (xs : List UInt8) (k : Nat) : rdroute ((xs.drop k).take 20) = ⟨⟨if xs.getD k 0 = 1 then 128 else 32, (xs.getD (k + 1) 0).toNat, kpre (fun j => (xs.getD (k + (2 + j)) 0).toNat) 16⟩, hop16 (xs.getD (k + 18) 0) (xs.getD (k + 19) 0)⟩ := by
  have e := fun i h => rd_drop (b := xs) (k := k) i h
  have ek : (kof fun i => (((xs.drop k).take 20).getD (2 + i) 0).toNat) = kpre (fun j => (xs.getD (k + (2 + j)) 0).toNat) 16 := by
    rw [kpre_all]
    refine key_ext_byte fun j hj => ?_
    rw [kbyte_kof _ _ hj, kbyte_kof _ _ hj, e (2 + j) (by omega)]
  show (⟨⟨if ((xs.drop k).take 20).getD 0 0 = 1 then 128 else 32, (((xs.drop k).take 20).getD 1 0).toNat, kof fun i => (((xs.drop k).take 20).getD (2 + i) 0).toNat⟩, hop16 (((xs.drop k).take 20).getD 18 0) (((xs.drop k).take 20).getD 19 0)⟩ : Rt) = _
  rw [ek, e 0 (by decide), e 1 (by decide), e 18 (by decide), e 19 (by decide), Nat.add_zero]
theorem bodiesE_1 {t : List Rt} {ids room : Int} (h : most ids room = 0 ∨ tright t = false) : bodiesE t ids room = 1 ∧ bodiesV t ids room = [] := by
  have e : bodiesE t ids room = 1 := if_pos h.symm
  exact ⟨e, by rw [bodiesV, e]; rfl⟩
theorem bodiesE_5 {t : List Rt} {ids room : Int} (h : ¬ most ids room = 0) (h' : tright t = true) (h2 : most ids room < t.length) : bodiesE t ids room = 5 ∧ bodiesV t ids room = [] := by
  have e : bodiesE t ids room = 5 := by
    rw [bodiesE, if_neg (by simp [h, h']), if_pos h2]
  exact ⟨e, by rw [bodiesV, e]; rfl⟩
theorem bodiesE_0 {t : List Rt} {ids room : Int} (h : ¬ most ids room = 0) (h' : tright t = true) (h2 : ¬ most ids room < t.length) : bodiesE t ids room = 0 ∧ bodiesV t ids room = bodiesOf t ids.toNat (room / 20).toNat := by
  have e : bodiesE t ids room = 0 := by
    rw [bodiesE, if_neg (by simp [h, h']), if_neg h2]
  exact ⟨e, by rw [bodiesV, if_pos e]⟩
theorem lx_set {s : Sv} {xs : List (Sl UInt8)} {i : Nat} {y : Sl UInt8} : lx (⟨s, xs.set i y⟩ : Sl (Sl UInt8)) = (xs.map (·.xs)).set i y.xs := by simp [lx, List.map_set]
end Go.Kb

/- Contracts as classes. -/
namespace Go.Proofs.Ytklhkejhndnhbaa
open Go.Eng Go.Kb
instance right_i {w0 : World} {L : List Ent} {s : Sv} {ss : List Rt} [h : HdE w0 L rcells 19 s ss] : FnQ Try.prog 6 w0 L [s.val] (.bool (tright ss)) True := ⟨fun _ w hw => right_c w s ss (h.h w hw)⟩

end Go.Proofs.Ytklhkejhndnhbaa

/- Nodes, ways and tries as cells of this program. -/
namespace Go.Proofs.Ytklhkejhndnhbaa
open Go.Eng Go.Kb

instance : ZeroT Try.prog 80 (.agg (ncells Nd.zero)) := ⟨by kernel_rfl⟩
instance : ZeroT Try.prog 76 (.agg (slcells Slt.no)) := ⟨by kernel_rfl⟩
instance : ZeroT Try.prog 29 (.agg (tcells ⟨0, ⟨Sv.none, []⟩⟩)) := ⟨by kernel_rfl⟩
instance : ZeroT Try.prog 69 (.agg (tcells ⟨0, ⟨Sv.none, []⟩⟩)) := ⟨by kernel_rfl⟩
instance : ZeroT Try.prog 3 (.int .i64 0) := ⟨by kernel_rfl⟩
instance : BuildT Try.prog 80 [] (.agg (ncells Nd.zero)) := ⟨fun w => by kernel_rfl⟩
instance (n : Int) (h : UInt16) : BuildT Try.prog 76 [(0, .int .i64 n), (1, .int .u16 h.toNat)] (.agg (slcells ⟨n, h⟩)) := ⟨fun w => by kernel_rfl⟩
instance : BuildT Try.prog 29 [] (.agg (tcells ⟨0, ⟨Sv.none, []⟩⟩)) := ⟨fun w => by kernel_rfl⟩
instance (n : Int) : BuildT Try.prog 29 [(0, .int .i64 n)] (.agg (tcells ⟨n, ⟨Sv.none, []⟩⟩)) := ⟨fun w => by kernel_rfl⟩
theorem tri_build (n : Int) (s : Sv) (xs : List Nd) (w : World) : (Instr.build 29 #[(0, .int .i64 n), (1, s.val)]).run Try.prog w = .ok (.agg (tcells ⟨n, ⟨s, xs⟩⟩)) w := by
  unfold tcells
  obtain ⟨e, b, o, l, c, p⟩ := s
  cases e <;> kernel_rfl
instance (t : Tri) : BuildT Try.prog 69 [(0, .agg (tcells t))] (.agg (tcells t)) := ⟨fun w => by
  obtain ⟨n, ⟨⟨e, b, o, l, c, p⟩, xs⟩⟩ := t
  unfold tcells
  cases e <;> kernel_rfl⟩
theorem partSl (d : Nat) : PartT Try.prog (d + 1 + 1) 76 true ([0] ++ ([0] ++ [])) := ⟨⟨_, Try.underlying76, rfl⟩, by kernel_rfl, (fun h => by cases h),
  eqF_struct Try.underlying76 (by kernel_rfl) ⟨by decide, rfl, _, _, _, rfl, ⟨⟨_, Try.underlying3, rfl⟩, by kernel_rfl, fun _ => rfl, eqF_int Try.underlying3⟩, by decide, rfl, _, _, _, rfl, ⟨⟨_, Try.underlying43, rfl⟩, by kernel_rfl, fun _ => rfl, eqF_int Try.underlying43⟩, rfl⟩⟩
theorem partAS (d : Nat) : PartT Try.prog (d + 1 + 1 + 1) 77 true (List.replicate 16 ([0] ++ ([0] ++ []))).flatten := ⟨⟨_, Try.underlying77, rfl⟩, by kernel_rfl, (fun h => by cases h), eqF_arr Try.underlying77 (partSl d)⟩
theorem partAI (d : Nat) : PartT Try.prog (d + 1 + 1) 78 true (List.replicate 16 [0]).flatten := ⟨⟨_, Try.underlying78, rfl⟩, by kernel_rfl, (fun h => by cases h), eqF_arr Try.underlying78 ⟨⟨_, Try.underlying3, rfl⟩, by kernel_rfl, fun _ => rfl, eqF_int Try.underlying3⟩⟩
theorem stoodN : Try.prog.stoodInHeld 80 = false := by kernel_rfl
theorem partN (d : Nat) : PartT Try.prog (d + 1 + 1 + 1 + 1) 80 true ((List.replicate 16 ([0] ++ ([0] ++ []))).flatten ++ ((List.replicate 16 [0]).flatten ++ [])) := ⟨⟨_, Try.underlying80, rfl⟩, by kernel_rfl, (fun h => by cases h),
  eqF_struct Try.underlying80 stoodN ⟨by decide, rfl, _, _, _, rfl, partAS d, by decide, rfl, _, _, _, rfl, partAI (d + 1), rfl⟩⟩
theorem guardN : Try.prog.eqGuardType Try.prog.depth 80 = false := by kernel_rfl
instance (a b : Nd) : EqV Try.prog 80 (.agg (ncells a)) (.agg (ncells b)) (decide (a = b)) :=
  (partN 9996).eq.val rfl guardN (ncells_size a) (ncells_size b) (fun i k hk => by
    have h0 : k = 0 := by
      have : k ∈ ((List.replicate 16 ([0] ++ ([0] ++ []))).flatten ++ ((List.replicate 16 [0]).flatten ++ [])) := List.mem_of_getElem? hk
      simpa using this
    subst h0
    have hi : i < 48 := (List.getElem?_eq_some_iff.1 hk).1
    refine ⟨_, _, ncells_get a i hi, ncells_get b i hi, ?_⟩
    unfold ncell; split
    · split <;> rfl
    · rfl) (by rw [decide_eq_true_iff]; exact ⟨ncells_inj, fun h => by rw [h]⟩)

end Go.Proofs.Ytklhkejhndnhbaa

/- Small functions of package trie, walked. -/
namespace Go.Proofs.Ytklhkejhndnhbaa
open Go.Eng Go.Kb
set_option maxRecDepth 20000 in
theorem texists_c (w : World) (b : Int)  : Calls Try.prog 20 #[.int .i64 b] w fun e w' => e = .returned (.bool (decide (b = 32) || decide (b = 128))) ∧ Mem w [] w' := by
  refine calls_of (args := [_]) Try.func20 rfl Try.ntmps20 rfl ?_
  change Cw _ _ _ _ _ [(0, .int .i64 b)] []
  refine cw_seq ?_
  refine cw_region ?_
  refine sq_r (ry_assign rfl) ?_
  refine sq_nil ?_
  refine ex_then ?_
  refine cw_seq ?_
  refine cw_region ?_
  refine sq_r (ry_move rfl) ?_
  refine sq_r (ry_int rfl rfl rfl) ?_
  refine sq_r (ry_move rfl) ?_
  refine sq_gf rfl rfl rfl (fun hg => (Ry.yl (ry_move rfl))) ?_
  refine sq_gf rfl rfl rfl (fun hg => (Ry.yl (ry_int (ev_c hg rfl) rfl rfl))) ?_
  refine sq_r (ry_or rfl rfl rfl) ?_
  refine sq_r (ry_assign rfl) ?_
  refine sq_nil ?_
  refine ex_then ?_
  refine cw_ret ?_
  refine ex_ret (.inl rfl) (res_1 rfl (rv_tmp rfl)) (fun w1 hw => ?_)
  exact ⟨congrArg (fun b => Ending.returned (Value.bool b)) (rfl), Keep.mem hw⟩
instance texists_i {w0 : World} {L : List Ent} {b : Int}  : FnQ Try.prog 20 w0 L [.int .i64 b] (.bool (decide (b = 32) || decide (b = 128))) (True) := ⟨fun hp w hw => texists_c w b ⟩

end Go.Proofs.Ytklhkejhndnhbaa

/- The node behind one: walked. -/
namespace Go.Proofs.Ytklhkejhndnhbaa
open Go.Eng Go.Kb
set_option maxRecDepth 20000 in
theorem tnext_c (w0 w : World) (L : List Ent) (B : Nat) (T : TypeId) (bits : Int) (s : Sv) (ns : List Nd) (node : Nat) (four : Int) (hw : Mem w0 (blk B (tcells ⟨bits, ⟨s, []⟩⟩) T :: own ncells 48 s ns :: L) w) (hpre : node < ns.length ∧ 0 ≤ four ∧ four < 16 ∧ ns.length ≤ 512) : Calls Try.prog 38 #[.pointer (some ⟨B, 0, none⟩), .int .i64 (node : Nat), .int .i64 four] w fun e w' => ∃ zz : Sv, e = .returned (.tuple #[.int .i64 (nextN ns node four.toNat), .bool (nextO ns node four.toNat)]) ∧ (True) ∧ Mem w0 (blk B (tcells ⟨bits, ⟨zz, []⟩⟩) T :: own ncells 48 zz (nextL ns node four.toNat) :: L) w' := by
  obtain ⟨hp1, hp2, hp3, hp4⟩ := hpre
  refine calls_in (args := [_, _, _]) Try.func38 rfl Try.ntmps38 rfl hw ?_
  change Cw _ _ _ _ _ [(0, .pointer (some ⟨B, 0, none⟩)), (1, .int .i64 (node : Nat)), (2, .int .i64 four)] (blk B (tcells ⟨bits, ⟨s, []⟩⟩) T :: own ncells 48 s ns :: L)
  refine cw_seq ?_
  refine cw_region ?_
  refine sq_r (ry_assign rfl) ?_
  refine sq_r (ry_assign rfl) ?_
  refine sq_nil ?_
  refine ex_then ?_
  refine cw_seq ?_
  refine cw_seq ?_
  refine cw_region ?_
  refine sq_r (ry_move rfl) ?_
  refine sq_r (ry_nilp rfl) ?_
  refine sq_r (ry_field (o' := 0) rfl rfl) ?_
  refine sq_r (ry_field (o' := 1) rfl rfl) ?_
  refine sq_r (ry_cellc rfl) ?_
  refine sq_r (ry_move rfl) ?_
  refine sq_r (ry_move rfl) ?_
  obtain ⟨n, hn⟩ := get_some (xs := ns) (i := node) (by omega)
  refine sq_r (ry_idxH rfl rfl node rfl (by omega)) ?_
  have en : ns.getD node Nd.zero = n := by simp [List.getD, hn]
  refine sq_r (ry_field rfl rfl) ?_
  refine sq_r (ry_idxA rfl rfl (by omega) (by omega)) ?_
  refine sq_r (ry_nx rfl node hn ((four).toNat) (by omega) (by simp only [Nat.add_eq, Int.toNat_natCast, Nat.mul_one, Nat.zero_add, Nat.add_zero] <;> omega)) ?_
  refine sq_r (ry_assign rfl) ?_
  refine sq_nil ?_
  refine ex_then ?_
  refine cw_seq ?_
  refine cw_region ?_
  refine sq_r (ry_move rfl) ?_
  refine sq_r (ry_int rfl rfl rfl) ?_
  refine sq_nil ?_
  refine ex_then ?_
  refine cw_cond rfl (fun h0 => ?_) (fun h0 => ?_)
  · try simp only [bz0, bz1, bz2, bz3, bz4, bz5, bz6, bz7, bz8, bz9] at h0
    refine cw_seq ?_
    refine cw_region ?_
    refine sq_r (ry_move rfl) ?_
    refine sq_r (ry_assign rfl) ?_
    refine sq_r (ry_assign rfl) ?_
    refine sq_nil ?_
    refine ex_then ?_
    refine cw_ret ?_
    refine ex_pass_ret ?_
    refine ex_ret (.inl rfl) (res_2 rfl (rv_tmp rfl) (rv_tmp rfl)) (fun w1 hw => ?_)
    exact ⟨s, by rw [nextN, nextO, en, if_pos h0, decide_eq_true h0]; rfl, trivial, by rw [nextL, en, if_pos (.inl h0)]; exact Keep.mem hw⟩
  · try simp only [bz0, bz1, bz2, bz3, bz4, bz5, bz6, bz7, bz8, bz9] at h0
    refine cw_skip ?_
    refine ex_then ?_
    refine cw_seq ?_
    refine cw_seq ?_
    refine cw_region ?_
    refine sq_r (ry_move rfl) ?_
    refine sq_r (ry_nilp rfl) ?_
    refine sq_r (ry_field (o' := 0) rfl rfl) ?_
    refine sq_r (ry_field (o' := 1) rfl rfl) ?_
    refine sq_r (ry_cellc rfl) ?_
    refine sq_r (ry_lenH rfl) ?_
    refine sq_r (ry_int rfl rfl rfl) ?_
    refine sq_nil ?_
    refine ex_then ?_
    refine cw_cond rfl (fun h1 => ?_) (fun h1 => ?_)
    · try simp only [bz0, bz1, bz2, bz3, bz4, bz5, bz6, bz7, bz8, bz9] at h1
      refine cw_seq ?_
      refine cw_region ?_
      refine sq_r (ry_assign rfl) ?_
      refine sq_r (ry_assign rfl) ?_
      refine sq_nil ?_
      refine ex_then ?_
      refine cw_ret ?_
      refine ex_pass_ret ?_
      refine ex_ret (.inl rfl) (res_2 rfl (rv_tmp rfl) (rv_tmp rfl)) (fun w1 hw => ?_)
      exact ⟨s, by rw [nextN, nextO, en, if_neg h0, if_pos (by omega), decide_eq_false h0, decide_eq_false (by omega)]; rfl, trivial, by rw [nextL, en, if_pos (.inr (by omega))]; exact Keep.mem hw⟩
    · try simp only [bz0, bz1, bz2, bz3, bz4, bz5, bz6, bz7, bz8, bz9] at h1
      refine cw_skip ?_
      refine ex_then ?_
      refine cw_seq ?_
      refine cw_region ?_
      refine sq_r (ry_move rfl) ?_
      refine sq_r (ry_move rfl) ?_
      refine sq_r (ry_nilp rfl) ?_
      refine sq_r (ry_field (o' := 0) rfl rfl) ?_
      refine sq_r (ry_field (o' := 1) rfl rfl) ?_
      refine sq_r (ry_cellc rfl) ?_
      refine sq_r (ry_buildc rfl) ?_
      refine sq_buildSlice (enc := ncells) (vals := [_]) [Nd.zero] rfl rfl rfl (by decide) (by decide) fun b37 => ?_
      refine sq_append (s := s) (ys := [Nd.zero]) rfl rfl (by decide) (fun w hw => src_rows (s := ⟨false, b37, 0, 1, 1, none⟩) Try.underlying27 (by decide) ((inferInstance : Hd _ _ ⟨false, b37, 0, 1, 1, none⟩ ncells 48 [Nd.zero]).h w hw)) (by simp only [List.length_append, List.length_cons, List.length_nil]; omega) (by simp only [List.length_append, List.length_cons, List.length_nil]; omega) fun s38 hs38 hl38 => ?_
      refine sq_r (ry_nilp rfl) ?_
      refine sq_r (ry_field (o' := 0) rfl rfl) ?_
      refine sq_r (ry_field (o' := 1) rfl rfl) ?_
      refine sq_store (cs' := tcells (⟨bits, ⟨s38, []⟩⟩ : Tri)) rfl rfl (by show 1 < 2; decide) (by first | rfl | exact Sv.one _) rfl ?_
      refine sq_nil ?_
      refine ex_then ?_
      refine cw_seq ?_
      have hm : (ns ++ [Nd.zero])[node]? = some n := by rw [List.getElem?_append_left hp1]; exact hn
      have hlt : node < s38.len := by rw [hl38, List.length_append]; omega
      refine cw_lin [17] [[], [], [], [], [], [], [], [], [], [], [], [], [], [], [], [], [], []] [0, 1, 2, 3, 4, 5, 6, 7, 8, 9, 10, 11, 12, 13, 14, 15, 16, 17] [blk B (tcells ⟨bits, ⟨s38, []⟩⟩) T] (fun _ hw => Keep.mem hw) (by kernel_rfl) (by kernel_rfl) ?_
      refine ln_r rfl (ry_move rfl) ?_
      refine ln_r rfl (ry_nilp rfl) ?_
      refine ln_r rfl (ry_field (o' := 0) rfl rfl) ?_
      refine ln_r rfl (ry_field (o' := 1) rfl rfl) ?_
      refine ln_r rfl (ry_cellc rfl) ?_
      refine ln_r rfl (ry_move rfl) ?_
      refine ln_r rfl (ry_move rfl) ?_
      refine ln_r rfl (ry_move rfl) ?_
      refine ln_r rfl (ry_nilp rfl) ?_
      refine ln_r rfl (ry_field (o' := 0) rfl rfl) ?_
      refine ln_r rfl (ry_field (o' := 1) rfl rfl) ?_
      refine ln_r rfl (ry_cellc rfl) ?_
      refine ln_r rfl (ry_lenS rfl hs38 (hl38.trans (by simp : _ = ns.length + 1))) ?_
      refine ln_r rfl (ry_sub rfl rfl (by omega)) ?_
      obtain ⟨e56, he56⟩ := get_some (xs := (ns ++ [Nd.zero])) (i := node) (by omega)
      refine ln_r rfl (ry_idxSv rfl rfl rfl hs38 hlt) ?_
      refine ln_r rfl (ry_field rfl rfl) ?_
      refine ln_r rfl (ry_idxA rfl rfl (by omega) (by omega)) ?_
      refine ln_st rfl (st_stNx rfl rfl hm ((four).toNat) (by omega) (by simp only [Nat.add_eq, Int.toNat_natCast, Nat.mul_one, Nat.zero_add, Nat.add_zero] <;> omega) ⟨fun _ hw => Keep.mem hw, ?_⟩)
      refine ln_nil ?_
      refine ex_then ?_
      refine cw_seq ?_
      refine cw_region ?_
      refine sq_r (ry_move rfl) ?_
      refine sq_r (ry_nilp rfl) ?_
      refine sq_r (ry_field (o' := 0) rfl rfl) ?_
      refine sq_r (ry_field (o' := 1) rfl rfl) ?_
      refine sq_r (ry_cellc rfl) ?_
      refine sq_r (ry_lenS rfl hs38 (hl38.trans (by simp : _ = ns.length + 1))) ?_
      refine sq_r (ry_sub rfl rfl (by omega)) ?_
      refine sq_r (ry_assign rfl) ?_
      refine sq_r (ry_assign rfl) ?_
      refine sq_nil ?_
      refine ex_then ?_
      refine cw_ret ?_
      refine ex_ret (.inl rfl) (res_2 rfl (rv_tmp rfl) (rv_tmp rfl)) (fun w1 hw => ?_)
      exact ⟨s38, by rw [nextN, nextO, en, if_neg h0, if_neg (by omega), decide_eq_true (show ns.length < 512 by omega)]; simp, trivial, by rw [nextL, en, if_neg (by omega)]; have := hw.sub (List.sublist_cons_self _ _); simpa using this⟩
instance tnext_i {w0 : World} {L R1 L2 : List Ent} {i j : Nat} {B : Nat} {T : TypeId} {bits : Int} {s : Sv} {ns : List Nd} {node : Nat} {four : Int} [h : Has L B (tcells ⟨bits, ⟨s, []⟩⟩) T i] [d1 : DelI L i R1] [q : Owns R1 s ncells 48 ns j] [d2 : DelI R1 j L2] : FnC Try.prog 38 w0 L [.pointer (some ⟨B, 0, none⟩), .int .i64 (node : Nat), .int .i64 four] (Sv) (fun zz => .tuple #[.int .i64 (nextN ns node four.toNat), .bool (nextO ns node four.toNat)]) (fun zz => blk B (tcells ⟨bits, ⟨zz, []⟩⟩) T :: own ncells 48 zz (nextL ns node four.toNat) :: L2) (fun zz => True) (node < ns.length ∧ 0 ≤ four ∧ four < 16 ∧ ns.length ≤ 512) := ⟨fun hp w hw => tnext_c w0 w L2 B T bits s ns node four (mem_two h.h d1.h q.h d2.h hw) hp⟩

end Go.Proofs.Ytklhkejhndnhbaa

/- A route more in a trie: walked. -/
namespace Go.Proofs.Ytklhkejhndnhbaa
open Go.Eng Go.Kb
set_option maxRecDepth 20000 in
theorem tadd_c (w0 w : World) (L : List Ent) (B : Nat) (T : TypeId) (bits : Int) (s : Sv) (W : List Wy) (R : List Rt) (r : Rt) (hw : Mem w0 (blk B (tcells ⟨bits, ⟨s, []⟩⟩) T :: own ncells 48 s (nodes bits W R) :: L) w) (hpre : pmay r.p = true ∧ r.p.bits = bits ∧ WOk W ∧ Holds' bits W R ∧ W.length ≤ 512) : Calls Try.prog 21 #[.pointer (some ⟨B, 0, none⟩), .agg (rcells r)] w fun e w' => ∃ zz : Sv × List Nd, e = .returned (.bool (decide ((addTo W r.p (lastN r.p)).length ≤ 512))) ∧ ((addTo W r.p (lastN r.p)).length ≤ 512 → zz.2 = nodes bits (addTo W r.p (lastN r.p)) (R ++ [r])) ∧ Mem w0 (blk B (tcells ⟨bits, ⟨zz.1, []⟩⟩) T :: own ncells 48 zz.1 zz.2 :: L) w' := by
  obtain ⟨hp1, hp2, hp3, hp4, hp5⟩ := hpre
  obtain ⟨hq1, hq2, hq3, hq4⟩ := (pmay_iff r.p).1 hp1
  have hlt := lastN_lt hp1
  have hroom := kst_room hp1
  have hke := kst_eq r.p.key (lastN r.p)
  have hop := openN_eq hp1
  have htd := tdiv_rng hq2 (by omega)
  refine calls_in (args := [_, _]) Try.func21 rfl Try.ntmps21 rfl hw ?_
  change Cw _ _ _ _ _ [(0, .pointer (some ⟨B, 0, none⟩)), (1, .agg (rcells r))] (blk B (tcells ⟨bits, ⟨s, []⟩⟩) T :: own ncells 48 s (nodes bits W R) :: L)
  refine cw_seq ?_
  refine cw_region ?_
  refine sq_boxA rfl fun b3 => ?_
  refine sq_r (ry_assign rfl) ?_
  refine sq_nil ?_
  refine ex_then ?_
  refine cw_seq ?_
  refine cw_region ?_
  refine sq_r (ry_field (o' := 0) rfl rfl) ?_
  refine sq_r (ry_field (o' := 1) rfl rfl) ?_
  refine sq_r (ry_cellc rfl) ?_
  refine sq_r (ry_sub rfl rfl (by omega)) ?_
  refine sq_r (ry_int rfl rfl (by rw [intOp, if_neg (by decide), wrap64_in (by omega)])) ?_
  refine sq_r (Ry.to (ry_max rfl rfl) (by rw [max_last hq2])) ?_
  refine sq_r (ry_assign rfl) ?_
  refine sq_nil ?_
  refine ex_then ?_
  refine cw_seq ?_
  refine cw_region ?_
  refine sq_r (ry_assign rfl) ?_
  refine sq_nil ?_
  refine ex_then ?_
  refine cw_seq ?_
  refine cw_seq ?_
  refine cw_region ?_
  refine sq_r (ry_move rfl) ?_
  refine sq_r (ry_move rfl) ?_
  refine sq_nil ?_
  refine ex_then ?_
  refine cw_block ?_
  refine cw_loop (X := Nat × Sv) (fun zz => [(21, .int .i64 (zz.1 : Nat)), (6, .int .i64 (((addTo W r.p zz.1).idxOf (wayAt r.p.key zz.1)) : Nat)), (0, .pointer (some ⟨B, 0, none⟩)), (3, .pointer (some ⟨b3, 0, none⟩)), (5, .int .i64 (lastN r.p : Nat)), (20, .int .i64 (lastN r.p : Nat))]) (fun zz => blk B (tcells ⟨bits, ⟨zz.2, []⟩⟩) T :: own ncells 48 zz.2 (nodes bits (addTo W r.p zz.1) R) :: blk b3 (rcells r) 57 :: L) (fun zz => zz.1 ≤ lastN r.p ∧ (addTo W r.p zz.1).length ≤ 512) (fun zz => lastN r.p - zz.1) (0, s) ⟨Nat.zero_le _, hp5⟩ (Sub.cons rfl (Sub.cons (look_eq rfl (by rw [wayAt_zero, addTo_zero, get_idx hp3.nodup hp3.root]; rfl)) (Sub.cons rfl (Sub.cons rfl (Sub.cons rfl (Sub.cons rfl (Sub.nil _))))))) (fun w hw => (Keep.mem hw : Mem _ (blk B (tcells ⟨bits, ⟨s, []⟩⟩) T :: own ncells 48 s (nodes bits W R) :: blk b3 (rcells r) 57 :: L) _)) ?_
  rintro ⟨i, s1⟩ ⟨hi1, hi2⟩
  dsimp only
  simp only at hi1 hi2
  have hWi := hp3.add (p := r.p) (n := i) (by omega)
  have hix := idx_get (addTo_last hp3 r.p i)
  have hil := idx_lt (addTo_last hp3 r.p i)
  have hk := kst_lt r.p.key i
  have hke2 := kst_eq r.p.key i
  refine cw_seq ?_
  refine cw_region ?_
  refine sq_r (ry_int rfl rfl rfl) ?_
  refine sq_nil ?_
  refine ex_then ?_
  refine cw_seq ?_
  refine cw_cond rfl (fun h0 => ?_) (fun h0 => ?_)
  · try simp only [bz0, bz1, bz2, bz3, bz4, bz5, bz6, bz7, bz8, bz9] at h0
    refine cw_skip ?_
    refine ex_then ?_
    refine cw_seq ?_
    refine cw_block ?_
    refine cw_seq ?_
    refine cw_region ?_
    refine sq_r (ry_move rfl) ?_
    refine sq_r (ry_assign rfl) ?_
    refine sq_nil ?_
    refine ex_then ?_
    refine cw_seq ?_
    refine cw_region ?_
    refine sq_r (ry_move rfl) ?_
    refine sq_r (ry_move rfl) ?_
    refine sq_r (ry_field (o' := 0) rfl rfl) ?_
    refine sq_r (ry_field (o' := 2) rfl rfl) ?_
    refine sq_r (ry_part rfl) ?_
    refine sq_r (ry_move rfl) ?_
    refine sq_y (yl_callC rfl trivial) ?_
    refine sq_callC rfl ⟨by rw [nodes_length]; exact hil, by omega, by omega, by rw [nodes_length]; exact hi2⟩ fun x32 hp32 => ?_
    have ho : nextO (nodes bits (addTo W r.p i) R) ((addTo W r.p i).idxOf (wayAt r.p.key i)) (kstep r.p.key i).toNat = decide ((addTo W r.p (i + 1)).length ≤ 512) := by have := next_ok hWi (R := R) (bits := bits) hix hk hi2; rw [child_wayAt _ _ (by omega), ← addTo_succ] at this; exact this
    refine sq_r (ry_move rfl) ?_
    refine sq_r (ry_extract (v := .int .i64 (nextN (nodes bits (addTo W r.p i) R) ((addTo W r.p i).idxOf (wayAt r.p.key i)) (kstep r.p.key ((i : Nat) : Int)).toNat)) rfl rfl) ?_
    refine sq_r (ry_extract (v := .bool (nextO (nodes bits (addTo W r.p i) R) ((addTo W r.p i).idxOf (wayAt r.p.key i)) (kstep r.p.key ((i : Nat) : Int)).toNat)) rfl rfl) ?_
    refine sq_r (ry_assign rfl) ?_
    refine sq_r (ry_assign rfl) ?_
    refine sq_nil ?_
    refine ex_then ?_
    refine cw_seq ?_
    refine cw_seq ?_
    refine cw_region ?_
    refine sq_r (ry_move rfl) ?_
    refine sq_r (ry_not rfl) ?_
    refine sq_nil ?_
    refine ex_then ?_
    refine cw_cond rfl (fun h1 => ?_) (fun h1 => ?_)
    · try simp only [bz0, bz1, bz2, bz3, bz4, bz5, bz6, bz7, bz8, bz9] at h1
      refine cw_seq ?_
      refine cw_region ?_
      refine sq_r (ry_assign rfl) ?_
      refine sq_nil ?_
      refine ex_then ?_
      refine cw_ret ?_
      refine ex_pass_ret ?_
      refine ex_block_ret ?_
      refine ex_pass_ret ?_
      refine ex_pass_ret ?_
      refine ex_block_ret ?_
      refine ex_pass_ret ?_
      refine ex_ret (.inl rfl) (res_1 rfl (rv_tmp rfl)) (fun w1 hw => ?_)
      have hno : ¬ (addTo W r.p (lastN r.p)).length ≤ 512 := by
        have h5 := (addTo_le (W := W) (p := r.p) (show i + 1 ≤ lastN r.p by omega)).length_le
        have h6 : ¬ (addTo W r.p (i + 1)).length ≤ 512 := by simpa [ho] using h1
        omega
      exact ⟨(x32, nextL (nodes bits (addTo W r.p i) R) ((addTo W r.p i).idxOf (wayAt r.p.key i)) (kstep r.p.key i).toNat), by rw [decide_eq_false hno], fun h => absurd h hno, Keep.mem hw⟩
    · try simp only [bz0, bz1, bz2, bz3, bz4, bz5, bz6, bz7, bz8, bz9] at h1
      refine cw_skip ?_
      refine ex_then ?_
      refine cw_region ?_
      refine sq_r (ry_move rfl) ?_
      refine sq_r (ry_assign rfl) ?_
      refine sq_nil ?_
      refine ex_block ?_
      refine ex_then ?_
      refine cw_region ?_
      refine sq_r (ry_add rfl rfl (by omega)) ?_
      refine sq_r (ry_move rfl) ?_
      refine sq_nil ?_
      have hl1 : (addTo W r.p (i + 1)).length ≤ 512 := by simpa [ho] using h1
      have hl2 := hl1
      rw [addTo_succ, ← child_wayAt _ _ (by omega)] at hl2
      have hnl : nextL (nodes bits (addTo W r.p i) R) ((addTo W r.p i).idxOf (wayAt r.p.key i)) (kst r.p.key i) = nodes bits (addTo W r.p (i + 1)) R := by rw [next_list hWi hix hk (by show i < 31; omega) (hp4.mono (addTo_pre _)) hl2, child_wayAt _ _ (by omega), ← addTo_succ]
      have hnn : nextN (nodes bits (addTo W r.p i) R) ((addTo W r.p i).idxOf (wayAt r.p.key i)) (kstep r.p.key i).toNat = (((addTo W r.p (i + 1)).idxOf (wayAt r.p.key (i + 1)) : Nat) : Int) := by have := next_num hWi (R := R) (bits := bits) hix hk hl2; rw [child_wayAt _ _ (by omega), ← addTo_succ] at this; exact this
      unfold kst at hnl
      exact ex_again (x := (i, s1)) (i + 1, x32) ⟨by first | omega | (simp only []; omega), by simpa [ho] using h1⟩ (by simp only; omega) (Sub.cons rfl (Sub.cons (look_eq rfl (by rw [hnn])) (Sub.cons rfl (Sub.cons rfl (Sub.cons rfl (Sub.cons rfl (Sub.nil _))))))) (fun w hw => by rw [hnl] at hw; exact Keep.mem hw)
  · try simp only [bz0, bz1, bz2, bz3, bz4, bz5, bz6, bz7, bz8, bz9] at h0
    obtain rfl : i = lastN r.p := by omega
    refine cw_exit ?_
    refine ex_pass_exit ?_
    refine ex_pass_exit ?_
    refine ex_block_hit ?_
    refine ex_then ?_
    refine cw_seq ?_
    refine cw_region ?_
    refine sq_r (ry_field (o' := 0) rfl rfl) ?_
    refine sq_r (ry_field (o' := 2) rfl rfl) ?_
    refine sq_r (ry_part rfl) ?_
    refine sq_r (ry_move rfl) ?_
    refine sq_y (yl_callC rfl trivial) ?_
    refine sq_r (ry_assign rfl) ?_
    refine sq_nil ?_
    refine ex_then ?_
    refine cw_seq ?_
    refine cw_region ?_
    refine sq_r (ry_field (o' := 0) rfl rfl) ?_
    refine sq_r (ry_field (o' := 1) rfl rfl) ?_
    refine sq_r (ry_cellc rfl) ?_
    refine sq_r (ry_move rfl) ?_
    refine sq_r (ry_mul rfl rfl (by omega)) ?_
    refine sq_r (ry_sub rfl rfl (by omega)) ?_
    refine sq_r (ry_sub rfl rfl (by omega)) ?_
    refine sq_r (Ry.to (ry_shl rfl rfl (by omega)) (by rw [shl_open hp1])) ?_
    refine sq_r (ry_assign rfl) ?_
    refine sq_nil ?_
    refine ex_then ?_
    refine cw_seq ?_
    refine cw_seq ?_
    refine cw_region ?_
    refine sq_r (ry_move rfl) ?_
    refine sq_r (ry_assign rfl) ?_
    refine sq_nil ?_
    refine ex_then ?_
    refine cw_block ?_
    refine cw_loop (X := Nat) (fun zz => [(12, .int .i64 (zz : Nat)), (0, .pointer (some ⟨B, 0, none⟩)), (3, .pointer (some ⟨b3, 0, none⟩)), (6, .int .i64 (((addTo W r.p (lastN r.p)).idxOf (wayAt r.p.key (lastN r.p))) : Nat)), (10, .int .i64 (kstep r.p.key ((lastN r.p : Nat) : Int))), (11, .int .i64 (2 ^ openN r.p : Nat))]) (fun zz => blk B (tcells ⟨bits, ⟨s1, []⟩⟩) T :: own ncells 48 s1 (nodesP bits (addTo W r.p (lastN r.p)) R r zz) :: blk b3 (rcells r) 57 :: L) (fun zz => kst r.p.key (lastN r.p) ≤ zz ∧ zz ≤ kst r.p.key (lastN r.p) + 2 ^ openN r.p) (fun zz => kst r.p.key (lastN r.p) + 2 ^ openN r.p - zz) (kst r.p.key (lastN r.p)) ⟨Nat.le_refl _, Nat.le_add_right _ _⟩ (Sub.cons (look_eq rfl (by rw [hke])) (Sub.cons rfl (Sub.cons rfl (Sub.cons rfl (Sub.cons rfl (Sub.cons rfl (Sub.nil _))))))) (fun w hw => by rw [nodesP_start hWi hp1 hp2]; exact Keep.mem hw) ?_
    rintro f ⟨hf1, hf2⟩
    refine cw_seq ?_
    refine cw_seq ?_
    refine cw_region ?_
    refine sq_r (ry_move rfl) ?_
    refine sq_r (ry_move rfl) ?_
    refine sq_r (ry_move rfl) ?_
    refine sq_r (ry_add rfl rfl (by omega)) ?_
    refine sq_r (ry_int rfl rfl rfl) ?_
    refine sq_nil ?_
    refine ex_then ?_
    refine cw_cond rfl (fun h2 => ?_) (fun h2 => ?_)
    · try simp only [bz0, bz1, bz2, bz3, bz4, bz5, bz6, bz7, bz8, bz9] at h2
      refine cw_skip ?_
      refine ex_then ?_
      refine cw_seq ?_
      refine cw_block ?_
      refine cw_seq ?_
      refine cw_region ?_
      refine sq_r (ry_move rfl) ?_
      refine sq_r (ry_nilp rfl) ?_
      refine sq_r (ry_field (o' := 0) rfl rfl) ?_
      refine sq_r (ry_field (o' := 1) rfl rfl) ?_
      refine sq_r (ry_cellc rfl) ?_
      refine sq_r (ry_move rfl) ?_
      refine sq_r (ry_move rfl) ?_
      obtain ⟨n, hn⟩ := get_some (xs := (nodesP bits (addTo W r.p (lastN r.p)) R r f)) (i := ((addTo W r.p (lastN r.p)).idxOf (wayAt r.p.key (lastN r.p)))) (by rw [nodesP_length]; exact hil)
      refine sq_r (ry_idxH rfl rfl ((addTo W r.p (lastN r.p)).idxOf (wayAt r.p.key (lastN r.p))) rfl (by rw [nodesP_length]; exact hil)) ?_
      refine sq_r (ry_field rfl rfl) ?_
      refine sq_r (ry_idxA rfl rfl (by omega) (by omega)) ?_
      refine sq_r (ry_assign rfl) ?_
      refine sq_nil ?_
      refine ex_then ?_
      refine cw_seq ?_
      refine cw_quiet (by kernel_rfl) (by kernel_rfl) ?_
      refine qt_r (ry_move rfl) ?_
      refine qt_r (ry_nilp rfl) ?_
      refine qt_r (ry_field rfl rfl) ?_
      refine qt_r (ry_slen rfl ((addTo W r.p (lastN r.p)).idxOf (wayAt r.p.key (lastN r.p))) hn f (by omega) (by simp only [Nat.add_eq, Int.toNat_natCast, Nat.mul_one, Nat.zero_add, Nat.add_zero] <;> omega)) ?_
      refine qt_r (ry_field (o' := 0) rfl rfl) ?_
      refine qt_r (ry_field (o' := 1) rfl rfl) ?_
      refine qt_r (ry_cellc rfl) ?_
      refine qt_r (ry_int rfl rfl rfl) ?_
      refine qt_nil ?_
      refine ex_then ?_
      refine cw_cond rfl (fun h3 => ?_) (fun h3 => ?_)
      · try simp only [bz0, bz1, bz2, bz3, bz4, bz5, bz6, bz7, bz8, bz9] at h3
        refine cw_region ?_
        refine sq_r (ry_move rfl) ?_
        refine sq_r (ry_field (o' := 0) rfl rfl) ?_
        refine sq_r (ry_field (o' := 1) rfl rfl) ?_
        refine sq_r (ry_cellc rfl) ?_
        refine sq_r (ry_add rfl rfl (by omega)) ?_
        refine sq_r (ry_field (o' := 18) rfl rfl) ?_
        refine sq_r (ry_cellc rfl) ?_
        refine sq_r (ry_buildc rfl) ?_
        refine sq_r (ry_nilp rfl) ?_
        refine sq_stSl rfl rfl hn f (by omega) (by simp only [Nat.add_eq, Int.toNat_natCast, Nat.mul_one, Nat.zero_add, Nat.add_zero] <;> omega) ?_
        refine sq_nil ?_
        refine ex_block ?_
        refine ex_then ?_
        refine cw_region ?_
        refine sq_r (ry_move rfl) ?_
        refine sq_r (ry_add rfl rfl (by omega)) ?_
        refine sq_r (ry_assign rfl) ?_
        refine sq_nil ?_
        have hsl : (slotF bits R (wayAt r.p.key (lastN r.p)) f).len ≤ r.p.len := by rw [← nodesP_slot hix (by omega) hn]; exact h3
        exact ex_again (x := (f)) (f + 1) ⟨by first | omega | (simp only []; omega), by first | omega | (simp only []; omega)⟩ (by first | omega | (simp only []; omega)) (Sub.cons rfl (Sub.cons rfl (Sub.cons rfl (Sub.cons rfl (Sub.cons rfl (Sub.cons rfl (Sub.nil _))))))) (fun w hw => by rw [nodesP_put hWi hp1 hp2 hix hn hf1 (by omega) hsl] at hw; exact Keep.mem hw)
      · try simp only [bz0, bz1, bz2, bz3, bz4, bz5, bz6, bz7, bz8, bz9] at h3
        refine cw_skip ?_
        refine ex_block ?_
        refine ex_then ?_
        refine cw_region ?_
        refine sq_r (ry_move rfl) ?_
        refine sq_r (ry_add rfl rfl (by omega)) ?_
        refine sq_r (ry_assign rfl) ?_
        refine sq_nil ?_
        have hsl : ¬ (slotF bits R (wayAt r.p.key (lastN r.p)) f).len ≤ r.p.len := by rw [← nodesP_slot hix (by omega) hn]; exact h3
        exact ex_again (x := (f)) (f + 1) ⟨by first | omega | (simp only []; omega), by first | omega | (simp only []; omega)⟩ (by first | omega | (simp only []; omega)) (Sub.cons rfl (Sub.cons rfl (Sub.cons rfl (Sub.cons rfl (Sub.cons rfl (Sub.cons rfl (Sub.nil _))))))) (fun w hw => by rw [nodesP_keep hWi hsl]; exact Keep.mem hw)
    · try simp only [bz0, bz1, bz2, bz3, bz4, bz5, bz6, bz7, bz8, bz9] at h2
      obtain rfl : f = kst r.p.key (lastN r.p) + 2 ^ openN r.p := by omega
      refine cw_exit ?_
      refine ex_pass_exit ?_
      refine ex_pass_exit ?_
      refine ex_block_hit ?_
      refine ex_then ?_
      refine cw_seq ?_
      refine cw_region ?_
      refine sq_r (ry_assign rfl) ?_
      refine sq_nil ?_
      refine ex_then ?_
      refine cw_ret ?_
      refine ex_ret (.inl rfl) (res_1 rfl (rv_tmp rfl)) (fun w1 hw => ?_)
      exact ⟨(s1, nodesP bits (addTo W r.p (lastN r.p)) R r (kst r.p.key (lastN r.p) + 2 ^ openN r.p)), by rw [decide_eq_true hi2], fun _ => nodesP_end hWi hp1 hp2, Keep.mem hw⟩
instance tadd_i {w0 : World} {L R1 L2 : List Ent} {i j : Nat} {B : Nat} {T : TypeId} {bits : Int} {s : Sv} {W : List Wy} {R : List Rt} {r : Rt} [h : Has L B (tcells ⟨bits, ⟨s, []⟩⟩) T i] [d1 : DelI L i R1] [q : Owns R1 s ncells 48 (nodes bits W R) j] [d2 : DelI R1 j L2] : FnC Try.prog 21 w0 L [.pointer (some ⟨B, 0, none⟩), .agg (rcells r)] (Sv × List Nd) (fun zz => .bool (decide ((addTo W r.p (lastN r.p)).length ≤ 512))) (fun zz => blk B (tcells ⟨bits, ⟨zz.1, []⟩⟩) T :: own ncells 48 zz.1 zz.2 :: L2) (fun zz => (addTo W r.p (lastN r.p)).length ≤ 512 → zz.2 = nodes bits (addTo W r.p (lastN r.p)) (R ++ [r])) (pmay r.p = true ∧ r.p.bits = bits ∧ WOk W ∧ Holds' bits W R ∧ W.length ≤ 512) := ⟨fun hp w hw => tadd_c w0 w L2 B T bits s W R r (mem_two h.h d1.h q.h d2.h hw) hp⟩

end Go.Proofs.Ytklhkejhndnhbaa

/- A table as a trie: walked. -/
namespace Go.Proofs.Ytklhkejhndnhbaa
open Go.Eng Go.Kb
set_option maxRecDepth 20000 in
theorem tbuild_c (w : World) (t : Sv) (ts : List Rt) (bits : Int) (ht : Lies rcells 19 (hp w) t ts) : Calls Try.prog 7 #[t.val, .int .i64 bits] w fun e w' => ∃ zz : Tri, e = .returned (.tuple #[.agg (tcells zz), .int .i64 (buildE ts bits)]) ∧ (zz.bits = buildB ts bits ∧ zz.ns.xs = buildN ts bits) ∧ Mem w [Deep.ent zz] w' := by
  have ght : Gv w t rcells 19 ts := ⟨ht⟩
  refine calls_of (args := [_, _]) Try.func7 rfl Try.ntmps7 rfl ?_
  change Cw _ _ _ _ _ [(0, t.val), (1, .int .i64 bits)] []
  refine cw_seq ?_
  refine cw_region ?_
  refine sq_allocA fun b4 => ?_
  refine sq_r (ry_assign rfl) ?_
  refine sq_nil ?_
  refine ex_then ?_
  refine cw_seq ?_
  refine cw_seq ?_
  refine cw_region ?_
  refine sq_r (ry_move rfl) ?_
  refine sq_y (yl_callC rfl trivial) ?_
  refine sq_r (ry_not rfl) ?_
  refine sq_r (ry_move rfl) ?_
  refine sq_gf rfl rfl rfl (fun hg => (Ry.yl (ry_move rfl))) ?_
  refine sq_gf rfl rfl rfl (fun hg => yl_callC (evl_cons (ev_c hg rfl) evl_nil) trivial) ?_
  refine sq_gf rfl rfl rfl (fun hg => (Ry.yl (ry_not (ev_c hg rfl)))) ?_
  refine sq_r (ry_or rfl rfl rfl) ?_
  refine sq_nil ?_
  refine ex_then ?_
  refine cw_cond rfl (fun h0 => ?_) (fun h0 => ?_)
  · try simp only [bz0, bz1, bz2, bz3, bz4, bz5, bz6, bz7, bz8, bz9] at h0
    have hc : ¬ (tright ts = true ∧ (bits = 32 ∨ bits = 128)) := by rintro ⟨h1, h2⟩; rcases h2 with h2 | h2 <;> simp [h1, h2] at h0
    obtain ⟨he1, he2, he3⟩ := buildE_arg hc
    refine cw_seq ?_
    refine cw_region ?_
    refine sq_r (ry_buildc rfl) ?_
    refine sq_storeW rfl rfl ?_
    refine sq_r (ry_assign rfl) ?_
    refine sq_nil ?_
    refine ex_then ?_
    refine cw_ret ?_
    refine ex_pass_ret ?_
    refine ex_ret (.inl rfl) (res_2 rfl (rv_agg rfl) (rv_tmp rfl)) (fun w1 hw => ?_)
    exact ⟨(⟨0, ⟨Sv.none, []⟩⟩ : Tri), by rw [he1], ⟨he2.symm, he3.symm⟩, Mem.nilEnt (τ := Nd) (enc := ncells) (c := 48) (Keep.mem hw : Mem w [] _)⟩
  · try simp only [bz0, bz1, bz2, bz3, bz4, bz5, bz6, bz7, bz8, bz9] at h0
    have hc : tright ts = true ∧ (bits = 32 ∨ bits = 128) := by simpa using h0
    have hlen := tr_len hc.1
    refine cw_skip ?_
    refine ex_then ?_
    refine cw_seq ?_
    refine cw_region ?_
    refine sq_r (ry_move rfl) ?_
    refine sq_makeS (enc := ncells) (n := 1) (cap := 1) Nd.zero rfl rfl rfl rfl rfl (by omega) (by omega) (by omega) fun b19 => ?_
    refine sq_r (ry_build (v := .agg (tcells ⟨bits, ⟨⟨false, b19, 0, 1, 1, none⟩, []⟩⟩)) rfl (tri_build bits _ [])) ?_
    refine sq_r (ry_buildc rfl) ?_
    refine sq_allocA fun b6 => ?_
    refine sq_storeW rfl rfl ?_
    refine sq_nil ?_
    refine ex_then ?_
    refine cw_seq ?_
    refine cw_seq ?_
    refine cw_region ?_
    refine sq_r (ry_move rfl) ?_
    refine sq_r (ry_lenH rfl) ?_
    refine sq_r (ry_move rfl) ?_
    refine sq_nil ?_
    refine ex_then ?_
    refine cw_block ?_
    refine cw_loop (X := Nat × Sv) (fun zz => [(24, .int .i64 (zz.1 : Nat)), (6, .pointer (some ⟨b6, 0, none⟩)), (1, .int .i64 bits), (4, .pointer (some ⟨b4, 0, none⟩)), (22, t.val), (23, .int .i64 (ts.length : Nat))]) (fun zz => [blk b6 (tcells ⟨bits, ⟨zz.2, []⟩⟩) 69, own ncells 48 zz.2 (nodes bits (waysF bits (ts.take zz.1)) (ts.take zz.1)), blk b4 (tcells (⟨0, ⟨Sv.none, []⟩⟩ : Tri)) 29]) (fun zz => zz.1 ≤ ts.length ∧ (waysF bits (ts.take zz.1)).length ≤ 512) (fun zz => ts.length - zz.1) (0, ⟨false, b19, 0, 1, 1, none⟩) ⟨Nat.zero_le _, (by decide : [root].length ≤ 512)⟩ (Sub.cons rfl (Sub.cons rfl (Sub.cons rfl (Sub.cons rfl (Sub.cons rfl (Sub.cons rfl (Sub.nil _))))))) (fun w hw => by rw [show List.replicate 1 Nd.zero = nodes bits [root] [] from (nodes_root bits).symm] at hw; exact (Keep.mem hw : Mem _ [blk b6 (tcells ⟨bits, ⟨⟨false, b19, 0, 1, 1, none⟩, []⟩⟩) 69, own ncells 48 ⟨false, b19, 0, 1, 1, none⟩ (nodes bits [root] []), blk b4 (tcells (⟨0, ⟨Sv.none, []⟩⟩ : Tri)) 29] _)) ?_
    rintro ⟨i, s1⟩ ⟨hi1, hi2⟩
    dsimp only
    simp only at hi1 hi2
    refine cw_seq ?_
    refine cw_region ?_
    refine sq_r (ry_int rfl rfl rfl) ?_
    refine sq_nil ?_
    refine ex_then ?_
    refine cw_seq ?_
    refine cw_cond rfl (fun h1 => ?_) (fun h1 => ?_)
    · try simp only [bz0, bz1, bz2, bz3, bz4, bz5, bz6, bz7, bz8, bz9] at h1
      refine cw_skip ?_
      refine ex_then ?_
      refine cw_seq ?_
      refine cw_block ?_
      refine cw_seq ?_
      refine cw_region ?_
      obtain ⟨e26, he26⟩ := get_some (xs := ts) (i := i) (by omega)
      refine sq_r (ry_idxH rfl rfl i rfl (by omega)) ?_
      refine sq_r (ry_elemH rfl i he26 rfl) ?_
      refine sq_allocA fun b8 => ?_
      refine sq_storeW rfl rfl ?_
      refine sq_nil ?_
      refine ex_then ?_
      refine cw_seq ?_
      refine cw_seq ?_
      refine cw_region ?_
      refine sq_r (ry_field (o' := 0) rfl rfl) ?_
      refine sq_r (ry_field (o' := 0) rfl rfl) ?_
      refine sq_r (ry_cellc rfl) ?_
      refine sq_r (ry_move rfl) ?_
      refine sq_r (ry_int rfl rfl rfl) ?_
      refine sq_nil ?_
      refine ex_then ?_
      refine cw_cond rfl (fun h2 => ?_) (fun h2 => ?_)
      · try simp only [bz0, bz1, bz2, bz3, bz4, bz5, bz6, bz7, bz8, bz9] at h2
        refine cw_exit ?_
        refine ex_pass_exit ?_
        refine ex_block_hit ?_
        refine ex_then ?_
        refine cw_region ?_
        refine sq_r (ry_add rfl rfl (by omega)) ?_
        refine sq_r (ry_move rfl) ?_
        refine sq_nil ?_
        have tk : ts.take (i + 1) = ts.take i ++ [e26] := by obtain ⟨hl, rfl⟩ := List.getElem?_eq_some_iff.1 he26; exact List.take_succ_eq_append_getElem hl
        exact ex_again (x := (i, s1)) (i + 1, s1) ⟨by first | omega | (simp only []; omega), by rw [ways_take he26, addWs, if_neg h2]; exact hi2⟩ (by simp only; omega) (Sub.cons rfl (Sub.cons rfl (Sub.cons rfl (Sub.cons rfl (Sub.cons rfl (Sub.cons rfl (Sub.nil _))))))) (fun w hw => by rw [ways_take he26, addWs, if_neg h2, tk, nodes_skip h2]; exact Keep.mem hw)
      · try simp only [bz0, bz1, bz2, bz3, bz4, bz5, bz6, bz7, bz8, bz9] at h2
        have hme := tr_may hc.1 (List.mem_of_getElem? he26)
        have hWi : WOk (waysF bits (ts.take i)) := ways_ok fun x hx => tr_may hc.1 (List.mem_of_mem_take hx)
        refine cw_skip ?_
        refine ex_then ?_
        refine cw_seq ?_
        refine cw_region ?_
        refine sq_r (ry_whole rfl) ?_
        refine sq_callC rfl ⟨hme, h2, hWi, holds_ways i ts, hi2⟩ fun x34 hp34 => ?_
        refine sq_r (ry_not rfl) ?_
        refine sq_nil ?_
        refine ex_then ?_
        refine cw_cond rfl (fun h3 => ?_) (fun h3 => ?_)
        · try simp only [bz0, bz1, bz2, bz3, bz4, bz5, bz6, bz7, bz8, bz9] at h3
          have hno : ¬ (waysF bits ts).length ≤ 512 := fun h => by have h5 := (ways_mono (bits := bits) (t := ts) (show i + 1 ≤ ts.length by omega)).length_le; rw [List.take_length, ways_take he26, addWs, if_pos h2] at h5; omega
          obtain ⟨he1, he2, he3⟩ := buildE_full hc hno
          refine cw_seq ?_
          refine cw_region ?_
          refine sq_r (ry_buildc rfl) ?_
          refine sq_storeW rfl rfl ?_
          refine sq_r (ry_assign rfl) ?_
          refine sq_nil ?_
          refine ex_then ?_
          refine cw_ret ?_
          refine ex_block_ret ?_
          refine ex_pass_ret ?_
          refine ex_pass_ret ?_
          refine ex_block_ret ?_
          refine ex_pass_ret ?_
          refine ex_ret (.inl rfl) (res_2 rfl (rv_agg rfl) (rv_tmp rfl)) (fun w1 hw => ?_)
          exact ⟨(⟨0, ⟨Sv.none, []⟩⟩ : Tri), by rw [he1], ⟨he2.symm, he3.symm⟩, Mem.nilEnt (τ := Nd) (enc := ncells) (c := 48) (Keep.mem hw : Mem w [] _)⟩
        · try simp only [bz0, bz1, bz2, bz3, bz4, bz5, bz6, bz7, bz8, bz9] at h3
          refine cw_skip ?_
          refine ex_block ?_
          refine ex_then ?_
          refine cw_region ?_
          refine sq_r (ry_add rfl rfl (by omega)) ?_
          refine sq_r (ry_move rfl) ?_
          refine sq_nil ?_
          have tk : ts.take (i + 1) = ts.take i ++ [e26] := by obtain ⟨hl, rfl⟩ := List.getElem?_eq_some_iff.1 he26; exact List.take_succ_eq_append_getElem hl
          have hok := h3
          exact ex_again (x := (i, s1)) (i + 1, x34.1) ⟨by first | omega | (simp only []; omega), by rw [ways_take he26, addWs, if_pos h2]; exact hok⟩ (by simp only; omega) (Sub.cons rfl (Sub.cons rfl (Sub.cons rfl (Sub.cons rfl (Sub.cons rfl (Sub.cons rfl (Sub.nil _))))))) (fun w hw => by rw [ways_take he26, addWs, if_pos h2, tk, ← hp34 hok]; exact Keep.mem hw)
    · try simp only [bz0, bz1, bz2, bz3, bz4, bz5, bz6, bz7, bz8, bz9] at h1
      refine cw_exit ?_
      refine ex_pass_exit ?_
      refine ex_pass_exit ?_
      refine ex_block_hit ?_
      refine ex_then ?_
      refine cw_seq ?_
      refine cw_region ?_
      refine sq_r (ry_field (o' := 0) rfl rfl) ?_
      refine sq_r (ry_part rfl) ?_
      refine sq_storeW rfl rfl ?_
      refine sq_r (ry_assign rfl) ?_
      refine sq_nil ?_
      refine ex_then ?_
      refine cw_ret ?_
      refine ex_ret (.inl rfl) (res_2 rfl (rv_agg rfl) (rv_tmp rfl)) (fun w1 hw => ?_)
      obtain rfl : i = ts.length := by omega
      rw [List.take_length] at hi2 hw
      obtain ⟨he1, he2, he3⟩ := buildE_ok hc hi2
      exact ⟨⟨bits, ⟨s1, nodes bits (waysF bits ts) ts⟩⟩, by rw [he1]; rfl, ⟨he2.symm, he3.symm⟩, (Tr.shut_p (a := (⟨s1, nodes bits (waysF bits ts) ts⟩ : Sl Nd))).mem (Keep.mem hw)⟩
instance tbuild_i {w0 : World} {L : List Ent} {t : Sv} {ts : List Rt} {bits : Int} [ht : HdE w0 L rcells 19 t ts] : FnC Try.prog 7 w0 L [t.val, .int .i64 bits] (Tri) (fun zz => .tuple #[.agg (tcells zz), .int .i64 (buildE ts bits)]) (fun zz => Deep.ent zz :: L) (fun zz => zz.bits = buildB ts bits ∧ zz.ns.xs = buildN ts bits) (True) := ⟨fun hp w hw => (tbuild_c w t ts bits (ht.h w hw)).mono fun e w' ⟨x, h1, h2, h3⟩ => ⟨x, h1, h2, hw.call h3⟩⟩

end Go.Proofs.Ytklhkejhndnhbaa

/- What a trie's functions answer: steps, walk, find. No program in sight. -/
namespace Go.Kb

/-! Steps. -/
def stepOne (m i : Nat) (nd : Nd) (b : Nat) (a : List Int) : Option (List Int) :=
  if (nd.sl b).len < 0 ∨ 4 * a.getD i 0 + 1 < (nd.sl b).len then none
  else if nd.nx b = 0 then some a
  else if nd.nx b ≤ (i : Int) ∨ (m : Int) ≤ nd.nx b ∨ a.getD (nd.nx b).toNat 0 ≠ 0 then none
  else some (a.set (nd.nx b).toNat (a.getD i 0 + 1))
def stepsB (m i : Nat) (nd : Nd) : Nat → List Int → Option (List Int)
  | 0, a => some a
  | b + 1, a => (stepsB m i nd b a).bind (stepOne m i nd b)
def stepsN (bits : Int) (ns : List Nd) : Nat → Option (List Int)
  | 0 => some ((List.replicate ns.length 0).set 0 1)
  | i + 1 => (stepsN bits ns i).bind fun a => if a.getD i 0 = 0 ∨ bits / 4 < a.getD i 0 then none else stepsB ns.length i (ns.getD i Nd.zero) 16 a
def stepsV (bits : Int) (ns : List Nd) : Option (List Int) := if (bits = 32 ∨ bits = 128) ∧ 1 ≤ ns.length ∧ ns.length ≤ 512 then stepsN bits ns ns.length else none
theorem stepsN_none {bits : Int} {ns : List Nd} {i : Nat} (h : stepsN bits ns i = none) : ∀ j, i ≤ j → stepsN bits ns j = none := by
  intro j hj
  induction j with
  | zero => obtain rfl : i = 0 := by omega
            exact h
  | succ j ih =>
    rcases Nat.lt_or_ge j i with h' | h'
    · obtain rfl : i = j + 1 := by omega
      exact h
    · rw [stepsN, ih h']; rfl
theorem stepsB_none {m i : Nat} {nd : Nd} {a : List Int} {b : Nat} (h : stepsB m i nd b a = none) : ∀ c, b ≤ c → stepsB m i nd c a = none := by
  intro c hc
  induction c with
  | zero => obtain rfl : b = 0 := by omega
            exact h
  | succ c ih =>
    rcases Nat.lt_or_ge c b with h' | h'
    · obtain rfl : b = c + 1 := by omega
      exact h
    · rw [stepsB, ih h']; rfl
theorem stepsV_none {bits : Int} {ns : List Nd} {i : Nat} (hi : i ≤ ns.length) (h : stepsN bits ns i = none) : stepsV bits ns = none := by
  rw [stepsV]; split
  · exact stepsN_none h _ hi
  · rfl
section
variable {bits : Int} {ns : List Nd} {i : Nat} {a a2 : List Int} {nd : Nd}
theorem stepsV_bad (hi : i < ns.length) (h : stepsN bits ns i = some a) (hx : a.getD i 0 = 0 ∨ bits / 4 < a.getD i 0) : stepsV bits ns = none :=
  stepsV_none (i := i + 1) hi (by rw [stepsN, h, Option.bind_some, if_pos hx])
theorem stepsV_bad2 {b : Nat} (hi : i < ns.length) (h : stepsN bits ns i = some a) (hn : ns[i]? = some nd) (hb : b < 16) (h2 : stepsB ns.length i nd b a = some a2) (h3 : stepOne ns.length i nd b a2 = none) : stepsV bits ns = none :=
  stepsV_none (i := i + 1) hi (by
    rw [stepsN, h, Option.bind_some]
    split
    · rfl
    · have e : ns.getD i Nd.zero = nd := by rw [List.getD_eq_getElem?_getD, hn]; rfl
      rw [e]
      exact stepsB_none (b := b + 1) (by rw [stepsB, h2, Option.bind_some, h3]) _ hb)
theorem stepsN_next (h : stepsN bits ns i = some a) (hn : ns[i]? = some nd) (hx : ¬ (a.getD i 0 = 0 ∨ bits / 4 < a.getD i 0)) (h2 : stepsB ns.length i nd 16 a = some a2) : stepsN bits ns (i + 1) = some a2 := by
  have e : ns.getD i Nd.zero = nd := by rw [List.getD_eq_getElem?_getD, hn]; rfl
  rw [stepsN, h, Option.bind_some, if_neg hx, e, h2]
theorem getD_some {α : Type} {xs : List α} {i : Nat} {x d : α} (h : xs[i]? = some x) : xs.getD i d = x := by rw [List.getD_eq_getElem?_getD, h]; rfl
end

/-! Nodes that lead to nodes. -/
def InR (ns : List Nd) : Prop := ∀ (i : Nat) (nd : Nd), ns[i]? = some nd → ∀ b : Nat, b < 16 → 0 ≤ nd.nx b ∧ nd.nx b < ns.length
theorem stepsB_some {m i : Nat} {nd : Nd} {a a2 : List Int} : ∀ {n : Nat}, stepsB m i nd n a = some a2 → ∀ b, b < n → nd.nx b = 0 ∨ (i : Int) < nd.nx b ∧ nd.nx b < m := by
  intro n
  induction n generalizing a2 with
  | zero => intro _ b hb; omega
  | succ n ih =>
    intro h b hb
    rw [stepsB] at h
    cases e : stepsB m i nd n a with
    | none => rw [e] at h; cases h
    | some a3 =>
      rcases Nat.lt_or_ge b n with h' | h'
      · exact ih e b h'
      · obtain rfl : b = n := by omega
        rw [e, Option.bind_some, stepOne] at h
        split at h
        · cases h
        · split at h
          · left; assumption
          · split at h
            · cases h
            · right; omega
theorem stepsN_some {bits : Int} {ns : List Nd} {a : List Int} : ∀ {n : Nat}, stepsN bits ns n = some a → ∀ i nd, i < n → ns[i]? = some nd → ∀ b, b < 16 → nd.nx b = 0 ∨ (i : Int) < nd.nx b ∧ nd.nx b < ns.length := by
  intro n
  induction n generalizing a with
  | zero => intro _ i nd hi; omega
  | succ n ih =>
    intro h i nd hi hn b hb
    rw [stepsN] at h
    cases e : stepsN bits ns n with
    | none => rw [e] at h; cases h
    | some a3 =>
      rcases Nat.lt_or_ge i n with h' | h'
      · exact ih e i nd h' hn b hb
      · obtain rfl : i = n := by omega
        rw [e, Option.bind_some] at h
        split at h
        · cases h
        · rw [getD_some hn] at h
          exact stepsB_some h b hb
theorem inR_of {bits : Int} {ns : List Nd} (h : (stepsV bits ns).isSome = true) : InR ns ∧ (bits = 32 ∨ bits = 128) ∧ 1 ≤ ns.length ∧ ns.length ≤ 512 := by
  rw [stepsV] at h
  split at h
  · rename_i hc
    refine ⟨fun i nd hi b hb => ?_, hc⟩
    obtain ⟨a, ha⟩ := Option.isSome_iff_exists.1 h
    have hil := (List.getElem?_eq_some_iff.1 hi).1
    rcases stepsN_some ha i nd hil hi b hb with h1 | h1
    · omega
    · omega
  · cases h

theorem stepsB_len {m i : Nat} {nd : Nd} {a a2 : List Int} : ∀ {n : Nat}, stepsB m i nd n a = some a2 → a2.getD i 0 = a.getD i 0 ∧ ∀ b, b < n → 0 ≤ (nd.sl b).len ∧ (nd.sl b).len ≤ 4 * a.getD i 0 + 1 := by
  intro n
  induction n generalizing a2 with
  | zero => intro h; rw [stepsB] at h; exact ⟨by rw [Option.some.inj h], fun b hb => by omega⟩
  | succ n ih =>
    intro h
    rw [stepsB] at h
    cases e : stepsB m i nd n a with
    | none => rw [e] at h; cases h
    | some a3 =>
      obtain ⟨ih1, ih2⟩ := ih e
      rw [e, Option.bind_some, stepOne] at h
      split at h
      · cases h
      · rename_i h1
        have hb2 : ∀ b, b < n + 1 → 0 ≤ (nd.sl b).len ∧ (nd.sl b).len ≤ 4 * a.getD i 0 + 1 := fun b hb => by
          rcases Nat.lt_or_ge b n with h' | h'
          · exact ih2 b h'
          · obtain rfl : b = n := by omega
            rw [← ih1]; omega
        split at h
        · exact ⟨by rw [← Option.some.inj h]; exact ih1, hb2⟩
        · split at h
          · cases h
          · refine ⟨?_, hb2⟩
            rw [← Option.some.inj h, ← ih1, List.getD_eq_getElem?_getD, List.getD_eq_getElem?_getD, List.getElem?_set_ne (by omega)]
theorem stepsN_len {bits : Int} {ns : List Nd} {a : List Int} : ∀ {n : Nat}, stepsN bits ns n = some a → ∀ (i : Nat) (nd : Nd), i < n → ns[i]? = some nd → ∀ b, b < 16 → 0 ≤ (nd.sl b).len ∧ (nd.sl b).len ≤ 4 * (bits / 4) + 1 := by
  intro n
  induction n generalizing a with
  | zero => intro _ i nd hi; omega
  | succ n ih =>
    intro h i nd hi hn b hb
    rw [stepsN] at h
    cases e : stepsN bits ns n with
    | none => rw [e] at h; cases h
    | some a3 =>
      rcases Nat.lt_or_ge i n with h' | h'
      · exact ih e i nd h' hn b hb
      · obtain rfl : i = n := by omega
        rw [e, Option.bind_some] at h
        split at h
        · cases h
        · rw [getD_some hn] at h
          have := (stepsB_len h).2 b hb
          omega
theorem len_of {bits : Int} {ns : List Nd} (h : (stepsV bits ns).isSome = true) {i : Nat} {nd : Nd} (hn : ns[i]? = some nd) {b : Nat} (hb : b < 16) : 0 ≤ (nd.sl b).len ∧ (nd.sl b).len ≤ 129 := by
  obtain ⟨_, hbits, _⟩ := inR_of h
  rw [stepsV] at h
  split at h
  · obtain ⟨a, ha⟩ := Option.isSome_iff_exists.1 h
    have := stepsN_len ha i nd (List.getElem?_eq_some_iff.1 hn).1 hn b hb
    omega
  · cases h

/-! The way of a key. -/
def chain (ns : List Nd) (k : Key) : Nat → Nat
  | 0 => 0
  | n + 1 => ((ns.getD (chain ns k n) Nd.zero).nx (kst k n)).toNat
theorem chain_lt {ns : List Nd} {k : Key} (h : InR ns) (h0 : 0 < ns.length) : ∀ n, chain ns k n < ns.length
  | 0 => h0
  | n + 1 => by
    have ih := chain_lt (k := k) h h0 n
    obtain ⟨nd, hn⟩ : ∃ nd, ns[chain ns k n]? = some nd := ⟨ns[chain ns k n], by simp [ih]⟩
    have := h _ nd hn (kst k n) (kst_lt k n)
    rw [chain, getD_some hn]; omega
def wayLen (ns : List Nd) (k : Key) (n : Nat) : Nat := ((List.range n).find? fun j => chain ns k (j + 1) == 0).getD n
theorem wayLen_stop {ns : List Nd} {k : Key} {n i : Nat} (hi : i < n) (h : ∀ j, j < i → chain ns k (j + 1) ≠ 0) (h0 : chain ns k (i + 1) = 0) : wayLen ns k n = i := by
  unfold wayLen
  have : (List.range n).find? (fun j => chain ns k (j + 1) == 0) = some i := by
    rw [List.find?_range_eq_some]
    exact ⟨by simpa using h0, by simpa using hi, fun j hj => by simpa using h j hj⟩
  rw [this]; rfl
theorem wayLen_all {ns : List Nd} {k : Key} {n : Nat} (h : ∀ j, j < n → chain ns k (j + 1) ≠ 0) : wayLen ns k n = n := by
  unfold wayLen
  have : (List.range n).find? (fun j => chain ns k (j + 1) == 0) = none := by
    rw [List.find?_range_eq_none]
    intro j hj
    simpa using h j hj
  rw [this]; rfl
def wayL (ns : List Nd) (k : Key) (n : Nat) : List Int := (List.range (n + 1)).map fun j => ((chain ns k j : Nat) : Int)
theorem wayL_zero (ns : List Nd) (k : Key) : wayL ns k 0 = [0] := rfl
theorem wayL_succ (ns : List Nd) (k : Key) (n : Nat) : wayL ns k (n + 1) = wayL ns k n ++ [((chain ns k (n + 1) : Nat) : Int)] := by simp [wayL, List.range_succ]
theorem wayL_length (ns : List Nd) (k : Key) (n : Nat) : (wayL ns k n).length = n + 1 := by simp [wayL]
theorem wayL_get {ns : List Nd} {k : Key} {n i : Nat} (h : i ≤ n) : (wayL ns k n)[i]? = some ((chain ns k i : Nat) : Int) := by
  simp [wayL, show i < n + 1 by omega]
def walkOk (bits : Int) (ns : List Nd) (k : Key) : Bool := (stepsV bits ns).isSome && decide (kcut k bits = k)
def walkV (bits : Int) (ns : List Nd) (k : Key) : List Int := if walkOk bits ns k = true then wayL ns k (wayLen ns k (bits / 4).toNat) else []

/-! The best slot on a key's way. -/
def bestOf (ns : List Nd) (k : Key) : Nat → Slt
  | 0 => Slt.no
  | n + 1 => let s := (ns.getD (chain ns k n) Nd.zero).sl (kst k n)
    if (bestOf ns k n).len < s.len then s else bestOf ns k n
theorem bestOf_rng {bits : Int} {ns : List Nd} {k : Key} (h : (stepsV bits ns).isSome = true) : ∀ n, 0 ≤ (bestOf ns k n).len ∧ (bestOf ns k n).len ≤ 129
  | 0 => by simp [bestOf, Slt.no]
  | n + 1 => by
    obtain ⟨h1, _, h3, _⟩ := inR_of h
    have ih := bestOf_rng (k := k) h n
    have hl := chain_lt (k := k) h1 (by omega) n
    obtain ⟨nd, hn⟩ : ∃ nd, ns[chain ns k n]? = some nd := ⟨ns[chain ns k n], by simp [hl]⟩
    have := len_of h hn (kst_lt k n)
    simp only [bestOf, getD_some hn]
    split <;> omega
theorem walkV_len {bits : Int} {ns : List Nd} {k : Key} : (walkV bits ns k).length = 0 ↔ walkOk bits ns k = false := by
  unfold walkV; split
  · rename_i h; simp [wayL_length, h]
  · rename_i h; simpa using h
theorem walkV_get {bits : Int} {ns : List Nd} {k : Key} {i : Nat} (h : i < (walkV bits ns k).length) : (walkV bits ns k)[i]? = some ((chain ns k i : Nat) : Int) := by
  unfold walkV at h ⊢
  split at h
  · rename_i hk; rw [if_pos hk]; rw [wayL_length] at h; exact wayL_get (by omega)
  · simp at h
def findS (bits : Int) (ns : List Nd) (k : Key) : Slt := bestOf ns k (walkV bits ns k).length
def findE (bits : Int) (ns : List Nd) (k : Key) : Int := if walkOk bits ns k = true then (if (findS bits ns k).len = 0 then 6 else 0) else 1
def findN (bits : Int) (ns : List Nd) (k : Key) : Int := if findE bits ns k = 0 then (findS bits ns k).len - 1 else 0
def findH (bits : Int) (ns : List Nd) (k : Key) : UInt16 := if findE bits ns k = 0 then (findS bits ns k).hop else 0
def deepV (bits : Int) (ns : List Nd) : Int := ((stepsV bits ns).getD []).foldl max 0
end Go.Kb

/- Steps of a trie: walked. -/
namespace Go.Proofs.Ytklhkejhndnhbaa
open Go.Eng Go.Kb
set_option maxRecDepth 20000 in
theorem tsteps_c (w : World) (t : Tri) (ht : Deep.good (hp w) t) : Calls Try.prog 39 #[.agg (tcells t)] w fun e w' => ∃ zz : Sv, e = .returned (zz.val) ∧ (zz.nil = (stepsV t.bits t.ns.xs).isNone) ∧ Mem w [own iec 1 zz ((stepsV t.bits t.ns.xs).getD [])] w' := by
  have ght : GvD w t := ⟨ht⟩
  have hbd := ht.1.bd
  refine calls_of (args := [_]) Try.func39 rfl Try.ntmps39 rfl ?_
  change Cw _ _ _ _ _ [(0, .agg (tcells t))] []
  refine cw_seq ?_
  refine cw_region ?_
  refine sq_boxA rfl fun b1 => ?_
  refine sq_r (ry_assign rfl) ?_
  refine sq_nil ?_
  refine ex_then ?_
  refine cw_seq ?_
  refine cw_seq ?_
  refine cw_region ?_
  refine sq_r (ry_field (o' := 0) rfl rfl) ?_
  refine sq_r (ry_cellc rfl) ?_
  refine sq_y (yl_callC rfl trivial) ?_
  refine sq_r (ry_not rfl) ?_
  refine sq_r (ry_move rfl) ?_
  refine sq_gf rfl rfl rfl (fun hg => (Ry.yl (ry_field (o' := 1) rfl rfl))) ?_
  refine sq_gf rfl rfl rfl (fun hg => (Ry.yl (ry_cellc (ev_c hg rfl)))) ?_
  refine sq_gf rfl rfl rfl (fun hg => (Ry.yl (ry_lenH (ev_c hg rfl)))) ?_
  refine sq_gf rfl rfl rfl (fun hg => (Ry.yl (ry_int (ev_c hg rfl) rfl rfl))) ?_
  refine sq_r (ry_or rfl rfl rfl) ?_
  refine sq_r (ry_move rfl) ?_
  refine sq_gf rfl rfl rfl (fun hg => (Ry.yl (ry_field (o' := 1) rfl rfl))) ?_
  refine sq_gf rfl rfl rfl (fun hg => (Ry.yl (ry_cellc (ev_c hg rfl)))) ?_
  refine sq_gf rfl rfl rfl (fun hg => (Ry.yl (ry_lenH (ev_c hg rfl)))) ?_
  refine sq_gf rfl rfl rfl (fun hg => (Ry.yl (ry_int (ev_c hg rfl) rfl rfl))) ?_
  refine sq_r (ry_or rfl rfl rfl) ?_
  refine sq_nil ?_
  refine ex_then ?_
  refine cw_cond rfl (fun h0 => ?_) (fun h0 => ?_)
  · try simp only [bz0, bz1, bz2, bz3, bz4, bz5, bz6, bz7, bz8, bz9] at h0
    have hv : stepsV t.bits t.ns.xs = none := by rw [stepsV, if_neg]; omega
    refine cw_seq ?_
    refine cw_region ?_
    refine sq_r (ry_assign rfl) ?_
    refine sq_nil ?_
    refine ex_then ?_
    refine cw_ret ?_
    refine ex_pass_ret ?_
    refine ex_ret (.inl rfl) (res_1 rfl (rv_tmp rfl)) (fun w1 hw => ?_)
    exact ⟨Sv.none, rfl, by rw [hv]; rfl, by rw [hv]; exact Mem.nilOwn iec 1 (Keep.mem hw : Mem w [] _)⟩
  · try simp only [bz0, bz1, bz2, bz3, bz4, bz5, bz6, bz7, bz8, bz9] at h0
    have hb : t.bits = 32 ∨ t.bits = 128 := by omega
    have hl1 : 1 ≤ t.ns.xs.length := by omega
    have hl2 : t.ns.xs.length ≤ 512 := by omega
    have hv0 : stepsV t.bits t.ns.xs = stepsN t.bits t.ns.xs t.ns.xs.length := by rw [stepsV, if_pos ⟨hb, hl1, hl2⟩]
    refine cw_skip ?_
    refine ex_then ?_
    refine cw_seq ?_
    refine cw_region ?_
    refine sq_r (ry_field (o' := 1) rfl rfl) ?_
    refine sq_r (ry_cellc rfl) ?_
    refine sq_r (ry_lenH rfl) ?_
    refine sq_makeS (enc := iec) (n := t.ns.xs.length) (cap := t.ns.xs.length) (0 : Int) rfl rfl rfl rfl rfl (by omega) (by omega) (by omega) fun b28 => ?_
    refine sq_r (ry_assign rfl) ?_
    refine sq_nil ?_
    refine ex_then ?_
    refine cw_seq ?_
    refine cw_region ?_
    refine sq_r (ry_move rfl) ?_
    obtain ⟨z, hz⟩ := get_some (xs := (List.replicate t.ns.xs.length (0 : Int))) (i := 0) (by simp; omega)
    refine sq_r (ry_idxH rfl rfl 0 rfl (by simp; omega)) ?_
    refine sq_stI rfl rfl hz rfl ?_
    refine sq_nil ?_
    refine ex_then ?_
    refine cw_seq ?_
    refine cw_seq ?_
    refine cw_region ?_
    refine sq_r (ry_field (o' := 1) rfl rfl) ?_
    refine sq_r (ry_cellc rfl) ?_
    refine sq_r (ry_lenH rfl) ?_
    refine sq_r (ry_move rfl) ?_
    refine sq_nil ?_
    refine ex_then ?_
    refine cw_block ?_
    refine cw_loop (X := Nat × List Int) (fun zz => [(34, .int .i64 (zz.1 : Nat)), (3, (⟨false, b28, 0, t.ns.xs.length, t.ns.xs.length, none⟩ : Sv).val), (1, .pointer (some ⟨b1, 0, none⟩)), (32, t.ns.sv.val), (33, .int .i64 (t.ns.xs.length : Nat))]) (fun zz => [own iec 1 ⟨false, b28, 0, t.ns.xs.length, t.ns.xs.length, none⟩ zz.2, blk b1 (tcells t) 29]) (fun zz => zz.1 ≤ t.ns.xs.length ∧ stepsN t.bits t.ns.xs zz.1 = some zz.2 ∧ zz.2.length = t.ns.xs.length ∧ (∀ y ∈ zz.2, 0 ≤ y ∧ y ≤ 33)) (fun zz => t.ns.xs.length - zz.1) (0, (List.replicate t.ns.xs.length 0).set 0 1) ⟨Nat.zero_le _, rfl, by simp, fun y hy => by rcases List.mem_or_eq_of_mem_set hy with h | h; rw [List.eq_of_mem_replicate h]; omega; omega⟩ (Sub.cons rfl (Sub.cons rfl (Sub.cons rfl (Sub.cons rfl (Sub.cons rfl (Sub.nil _)))))) (fun w hw => Keep.mem hw) ?_
    rintro ⟨i, a⟩ ⟨hi, hs, ha, hy⟩
    dsimp only
    simp only at hi hs ha hy
    refine cw_seq ?_
    refine cw_region ?_
    refine sq_r (ry_int rfl rfl rfl) ?_
    refine sq_nil ?_
    refine ex_then ?_
    refine cw_seq ?_
    refine cw_cond rfl (fun h1 => ?_) (fun h1 => ?_)
    · try simp only [bz0, bz1, bz2, bz3, bz4, bz5, bz6, bz7, bz8, bz9] at h1
      refine cw_skip ?_
      refine ex_then ?_
      refine cw_seq ?_
      refine cw_block ?_
      refine cw_seq ?_
      refine cw_region ?_
      refine sq_r (ry_move rfl) ?_
      obtain ⟨n, hn⟩ := get_some (xs := t.ns.xs) (i := i) (by omega)
      refine sq_r (ry_idxH rfl rfl i rfl (by omega)) ?_
      refine sq_r (ry_elemH rfl i hn rfl) ?_
      refine sq_allocA fun b5 => ?_
      refine sq_r (ry_assign rfl) ?_
      refine sq_storeW rfl rfl ?_
      refine sq_nil ?_
      refine ex_then ?_
      refine cw_seq ?_
      refine cw_seq ?_
      refine cw_quiet (by kernel_rfl) (by kernel_rfl) ?_
      refine qt_r (ry_move rfl) ?_
      refine qt_r (ry_move rfl) ?_
      obtain ⟨x, hx⟩ := get_some (xs := a) (i := i) (by omega)
      refine qt_r (ry_idxH rfl rfl i rfl (by omega)) ?_
      have hxr := hy x (List.mem_of_getElem? hx)
      refine qt_r (ry_elemcH (j := 0) rfl i hx rfl (by decide)) ?_
      refine qt_r (ry_int rfl rfl rfl) ?_
      refine qt_r (ry_move rfl) ?_
      refine qt_gf rfl rfl rfl (fun hg => (Ry.yl (ry_move rfl))) ?_
      refine qt_gf rfl rfl rfl (fun hg => (Ry.yl (ry_move rfl))) ?_
      refine qt_gf rfl rfl rfl (fun hg => (Ry.yl (ry_idxH (ev_c hg rfl) (ev_c hg rfl) i rfl (by omega)))) ?_
      refine qt_gf rfl rfl rfl (fun hg => (Ry.yl (ry_elemcH (j := 0) (ev_c hg rfl) i hx rfl (by decide)))) ?_
      refine qt_gf rfl rfl rfl (fun hg => (Ry.yl (ry_field (o' := 0) rfl rfl))) ?_
      refine qt_gf rfl rfl rfl (fun hg => (Ry.yl (ry_cellc (ev_c hg rfl)))) ?_
      refine qt_gf rfl rfl rfl (fun hg => (Ry.yl (ry_quo (ev_c hg rfl) rfl (by simp only [bz0, bz1, bz2, bz3, bz4, bz5, bz6, bz7, bz8, bz9] at hg; omega) (by simp only [bz0, bz1, bz2, bz3, bz4, bz5, bz6, bz7, bz8, bz9] at hg; omega)))) ?_
      refine qt_gf rfl rfl rfl (fun hg => (Ry.yl (ry_int (ev_c hg rfl) (ev_c hg rfl) rfl))) ?_
      refine qt_r (ry_or rfl rfl rfl) ?_
      refine qt_nil ?_
      refine ex_then ?_
      refine cw_cond rfl (fun h2 => ?_) (fun h2 => ?_)
      · try simp only [bz0, bz1, bz2, bz3, bz4, bz5, bz6, bz7, bz8, bz9] at h2
        have hv := stepsV_bad (by omega) hs (by rw [getD_some hx]; omega)
        refine cw_seq ?_
        refine cw_region ?_
        refine sq_r (ry_assign rfl) ?_
        refine sq_nil ?_
        refine ex_then ?_
        refine cw_ret ?_
        refine ex_pass_ret ?_
        refine ex_block_ret ?_
        refine ex_pass_ret ?_
        refine ex_pass_ret ?_
        refine ex_block_ret ?_
        refine ex_pass_ret ?_
        refine ex_ret (.inl rfl) (res_1 rfl (rv_tmp rfl)) (fun w1 hw => ?_)
        exact ⟨Sv.none, rfl, by rw [hv]; rfl, by rw [hv]; exact Mem.nilOwn iec 1 (Keep.mem hw : Mem w [] _)⟩
      · try simp only [bz0, bz1, bz2, bz3, bz4, bz5, bz6, bz7, bz8, bz9] at h2
        have hxn : ¬ (a.getD i 0 = 0 ∨ t.bits / 4 < a.getD i 0) := by rw [getD_some hx]; omega
        refine cw_skip ?_
        refine ex_then ?_
        refine cw_seq ?_
        refine cw_region ?_
        refine sq_r (ry_move rfl) ?_
        refine sq_nil ?_
        refine ex_then ?_
        refine cw_block ?_
        refine cw_loop (X := Nat × List Int) (fun zz => [(54, .int .i64 (zz.1 : Nat)), (3, (⟨false, b28, 0, t.ns.xs.length, t.ns.xs.length, none⟩ : Sv).val), (1, .pointer (some ⟨b1, 0, none⟩)), (4, .int .i64 (i : Nat)), (5, .pointer (some ⟨b5, 0, none⟩)), (32, t.ns.sv.val), (33, .int .i64 (t.ns.xs.length : Nat)), (34, .int .i64 (i : Nat))]) (fun zz => [own iec 1 ⟨false, b28, 0, t.ns.xs.length, t.ns.xs.length, none⟩ zz.2, blk b5 (ncells n) 80, blk b1 (tcells t) 29]) (fun zz => zz.1 ≤ 16 ∧ stepsB t.ns.xs.length i n zz.1 a = some zz.2 ∧ zz.2.length = t.ns.xs.length ∧ (∀ y ∈ zz.2, 0 ≤ y ∧ y ≤ 33) ∧ zz.2[i]? = some x) (fun zz => 16 - zz.1) (0, a) ⟨by first | omega | (simp only []; omega), rfl, ha, hy, hx⟩ (Sub.cons rfl (Sub.cons rfl (Sub.cons rfl (Sub.cons rfl (Sub.cons rfl (Sub.cons rfl (Sub.cons rfl (Sub.cons rfl (Sub.nil _))))))))) (fun w hw => Keep.mem hw) ?_
        rintro ⟨b, a2⟩ ⟨hb2, hs2, ha2, hy2, hx2⟩
        dsimp only
        simp only at hb2 hs2 ha2 hy2 hx2
        refine cw_seq ?_
        refine cw_region ?_
        refine sq_r (ry_int rfl rfl rfl) ?_
        refine sq_nil ?_
        refine ex_then ?_
        refine cw_seq ?_
        refine cw_cond rfl (fun h3 => ?_) (fun h3 => ?_)
        · try simp only [bz0, bz1, bz2, bz3, bz4, bz5, bz6, bz7, bz8, bz9] at h3
          refine cw_skip ?_
          refine ex_then ?_
          refine cw_seq ?_
          refine cw_block ?_
          refine cw_seq ?_
          refine cw_region ?_
          refine sq_r (ry_move rfl) ?_
          refine sq_r (ry_assign rfl) ?_
          refine sq_nil ?_
          refine ex_then ?_
          refine cw_seq ?_
          refine cw_seq ?_
          refine cw_region ?_
          refine sq_r (ry_move rfl) ?_
          refine sq_r (ry_field (o' := 0) rfl rfl) ?_
          refine sq_r (ry_idxA rfl rfl (by omega) (by omega)) ?_
          refine sq_r (ry_field rfl rfl) ?_
          refine sq_r (ry_bslen rfl b (by omega) (by simp only [Nat.add_eq, Int.toNat_natCast, Nat.mul_one, Nat.zero_add, Nat.add_zero] <;> omega)) ?_
          refine sq_r (ry_assign rfl) ?_
          refine sq_nil ?_
          refine ex_then ?_
          refine cw_seq ?_
          refine cw_region ?_
          refine sq_r (ry_move rfl) ?_
          refine sq_r (ry_int rfl rfl rfl) ?_
          refine sq_r (ry_move rfl) ?_
          refine sq_gf rfl rfl rfl (fun hg => (Ry.yl (ry_move rfl))) ?_
          refine sq_gf rfl rfl rfl (fun hg => (Ry.yl (ry_move rfl))) ?_
          refine sq_gf rfl rfl rfl (fun hg => (Ry.yl (ry_move rfl))) ?_
          refine sq_gf rfl rfl rfl (fun hg => (Ry.yl (ry_idxH (ev_c hg rfl) (ev_c hg rfl) i rfl (by omega)))) ?_
          refine sq_gf rfl rfl rfl (fun hg => (Ry.yl (ry_elemcH (j := 0) (ev_c hg rfl) i hx2 rfl (by decide)))) ?_
          refine sq_gf rfl rfl rfl (fun hg => (Ry.yl (ry_mul rfl (ev_c hg rfl) (by simp only [bz0, bz1, bz2, bz3, bz4, bz5, bz6, bz7, bz8, bz9] at hg; omega)))) ?_
          refine sq_gf rfl rfl rfl (fun hg => (Ry.yl (ry_add (ev_c hg rfl) rfl (by simp only [bz0, bz1, bz2, bz3, bz4, bz5, bz6, bz7, bz8, bz9] at hg; omega)))) ?_
          refine sq_gf rfl rfl rfl (fun hg => (Ry.yl (ry_int (ev_c hg rfl) (ev_c hg rfl) rfl))) ?_
          refine sq_r (ry_or rfl rfl rfl) ?_
          refine sq_nil ?_
          refine ex_then ?_
          refine cw_cond rfl (fun h4 => ?_) (fun h4 => ?_)
          · try simp only [bz0, bz1, bz2, bz3, bz4, bz5, bz6, bz7, bz8, bz9] at h4
            have hv := stepsV_bad2 (by omega) hs hn (b := b) (by omega) hs2 (by rw [stepOne, getD_some hx2, if_pos (by omega)])
            refine cw_seq ?_
            refine cw_region ?_
            refine sq_r (ry_assign rfl) ?_
            refine sq_nil ?_
            refine ex_then ?_
            refine cw_ret ?_
            refine ex_pass_ret ?_
            refine ex_block_ret ?_
            refine ex_pass_ret ?_
            refine ex_pass_ret ?_
            refine ex_block_ret ?_
            refine ex_block_ret ?_
            refine ex_pass_ret ?_
            refine ex_pass_ret ?_
            refine ex_block_ret ?_
            refine ex_pass_ret ?_
            refine ex_ret (.inl rfl) (res_1 rfl (rv_tmp rfl)) (fun w1 hw => ?_)
            exact ⟨Sv.none, rfl, by rw [hv]; rfl, by rw [hv]; exact Mem.nilOwn iec 1 (Keep.mem hw : Mem w [] _)⟩
          · try simp only [bz0, bz1, bz2, bz3, bz4, bz5, bz6, bz7, bz8, bz9] at h4
            refine cw_skip ?_
            refine ex_then ?_
            refine cw_seq ?_
            refine cw_region ?_
            refine sq_r (ry_move rfl) ?_
            refine sq_r (ry_field (o' := 32) rfl rfl) ?_
            refine sq_r (ry_idxA rfl rfl (by omega) (by omega)) ?_
            refine sq_r (ry_bnx rfl b (by omega) (by simp only [Nat.add_eq, Int.toNat_natCast, Nat.mul_one, Nat.zero_add, Nat.add_zero] <;> omega)) ?_
            refine sq_r (ry_assign rfl) ?_
            refine sq_nil ?_
            refine ex_then ?_
            refine cw_seq ?_
            refine cw_seq ?_
            refine cw_region ?_
            refine sq_r (ry_move rfl) ?_
            refine sq_r (ry_int rfl rfl rfl) ?_
            refine sq_nil ?_
            refine ex_then ?_
            refine cw_cond rfl (fun h5 => ?_) (fun h5 => ?_)
            · try simp only [bz0, bz1, bz2, bz3, bz4, bz5, bz6, bz7, bz8, bz9] at h5
              have ho : stepOne t.ns.xs.length i n b a2 = some a2 := by rw [stepOne, getD_some hx2, if_neg (by omega), if_pos h5]
              refine cw_exit ?_
              refine ex_pass_exit ?_
              refine ex_block_hit ?_
              refine ex_then ?_
              refine cw_region ?_
              refine sq_r (ry_add rfl rfl (by omega)) ?_
              refine sq_r (ry_move rfl) ?_
              refine sq_nil ?_
              exact ex_again (x := (b, a2)) (b + 1, a2) ⟨by first | omega | (simp only []; omega), by rw [stepsB, hs2, Option.bind_some, ho], ha2, hy2, hx2⟩ (by simp only; omega) (Sub.cons rfl (Sub.cons rfl (Sub.cons rfl (Sub.cons rfl (Sub.cons rfl (Sub.cons rfl (Sub.cons rfl (Sub.cons rfl (Sub.nil _))))))))) (fun w hw => Keep.mem hw)
            · try simp only [bz0, bz1, bz2, bz3, bz4, bz5, bz6, bz7, bz8, bz9] at h5
              refine cw_skip ?_
              refine ex_then ?_
              refine cw_seq ?_
              refine cw_seq ?_
              refine cw_region ?_
              refine sq_r (ry_move rfl) ?_
              refine sq_r (ry_move rfl) ?_
              refine sq_r (ry_int rfl rfl rfl) ?_
              refine sq_r (ry_move rfl) ?_
              refine sq_gf rfl rfl rfl (fun hg => (Ry.yl (ry_move rfl))) ?_
              refine sq_gf rfl rfl rfl (fun hg => (Ry.yl (ry_field (o' := 1) rfl rfl))) ?_
              refine sq_gf rfl rfl rfl (fun hg => (Ry.yl (ry_cellc (ev_c hg rfl)))) ?_
              refine sq_gf rfl rfl rfl (fun hg => (Ry.yl (ry_lenH (ev_c hg rfl)))) ?_
              refine sq_gf rfl rfl rfl (fun hg => (Ry.yl (ry_int (ev_c hg rfl) (ev_c hg rfl) rfl))) ?_
              refine sq_r (ry_or rfl rfl rfl) ?_
              refine sq_r (ry_move rfl) ?_
              refine sq_gf rfl rfl rfl (fun hg => (Ry.yl (ry_move rfl))) ?_
              refine sq_gf rfl rfl rfl (fun hg => (Ry.yl (ry_move rfl))) ?_
              refine sq_gf rfl rfl rfl (fun hg => (Ry.yl (ry_idxH (ev_c hg rfl) (ev_c hg rfl) ((n.nx b).toNat) (by simp only [bz0, bz1, bz2, bz3, bz4, bz5, bz6, bz7, bz8, bz9] at hg; omega) (by simp only [bz0, bz1, bz2, bz3, bz4, bz5, bz6, bz7, bz8, bz9] at hg; omega)))) ?_
              refine sq_gf rfl rfl rfl (fun hg => (Ry.yl (ry_elemcH (j := 0) (ev_c hg rfl) ((n.nx b).toNat) (get_getD (xs := a2) (i := (n.nx b).toNat) (d := (0 : Int)) (by simp only [bz0, bz1, bz2, bz3, bz4, bz5, bz6, bz7, bz8, bz9] at hg; omega)) rfl (by decide)))) ?_
              refine sq_gf rfl rfl rfl (fun hg => (Ry.yl (ry_int (ev_c hg rfl) rfl rfl))) ?_
              refine sq_r (ry_or rfl rfl rfl) ?_
              refine sq_nil ?_
              refine ex_then ?_
              refine cw_cond rfl (fun h6 => ?_) (fun h6 => ?_)
              · try simp only [bz0, bz1, bz2, bz3, bz4, bz5, bz6, bz7, bz8, bz9] at h6
                have hv := stepsV_bad2 (by omega) hs hn (b := b) (by omega) hs2 (by rw [stepOne, getD_some hx2, if_neg (by omega), if_neg h5, if_pos (by omega)])
                refine cw_seq ?_
                refine cw_region ?_
                refine sq_r (ry_assign rfl) ?_
                refine sq_nil ?_
                refine ex_then ?_
                refine cw_ret ?_
                refine ex_pass_ret ?_
                refine ex_block_ret ?_
                refine ex_pass_ret ?_
                refine ex_pass_ret ?_
                refine ex_block_ret ?_
                refine ex_block_ret ?_
                refine ex_pass_ret ?_
                refine ex_pass_ret ?_
                refine ex_block_ret ?_
                refine ex_pass_ret ?_
                refine ex_ret (.inl rfl) (res_1 rfl (rv_tmp rfl)) (fun w1 hw => ?_)
                exact ⟨Sv.none, rfl, by rw [hv]; rfl, by rw [hv]; exact Mem.nilOwn iec 1 (Keep.mem hw : Mem w [] _)⟩
              · try simp only [bz0, bz1, bz2, bz3, bz4, bz5, bz6, bz7, bz8, bz9] at h6
                have ho : stepOne t.ns.xs.length i n b a2 = some (a2.set (n.nx b).toNat (x + 1)) := by rw [stepOne, getD_some hx2, if_neg (by omega), if_neg h5, if_neg (by omega)]
                refine cw_skip ?_
                refine ex_then ?_
                refine cw_region ?_
                refine sq_r (ry_move rfl) ?_
                refine sq_r (ry_move rfl) ?_
                refine sq_r (ry_move rfl) ?_
                refine sq_r (ry_move rfl) ?_
                refine sq_r (ry_idxH rfl rfl i rfl (by omega)) ?_
                refine sq_r (ry_elemcH (j := 0) rfl i hx2 rfl (by decide)) ?_
                refine sq_r (ry_add rfl rfl (by omega)) ?_
                obtain ⟨e104, he104⟩ := get_some (xs := a2) (i := (n.nx b).toNat) (by omega)
                refine sq_r (ry_idxH rfl rfl ((n.nx b).toNat) (by omega) (by omega)) ?_
                refine sq_stI rfl rfl he104 rfl ?_
                refine sq_nil ?_
                refine ex_block ?_
                refine ex_then ?_
                refine cw_region ?_
                refine sq_r (ry_add rfl rfl (by omega)) ?_
                refine sq_r (ry_move rfl) ?_
                refine sq_nil ?_
                exact ex_again (x := (b, a2)) (b + 1, _) ⟨by first | omega | (simp only []; omega), by rw [stepsB, hs2, Option.bind_some, ho], by simp [ha2], fun y hy' => by rcases List.mem_or_eq_of_mem_set hy' with h | h; exact hy2 y h; omega, by rw [List.getElem?_set_ne (by first | omega | (simp only []; omega))]; exact hx2⟩ (by simp only; omega) (Sub.cons rfl (Sub.cons rfl (Sub.cons rfl (Sub.cons rfl (Sub.cons rfl (Sub.cons rfl (Sub.cons rfl (Sub.cons rfl (Sub.nil _))))))))) (fun w hw => Keep.mem hw)
        · try simp only [bz0, bz1, bz2, bz3, bz4, bz5, bz6, bz7, bz8, bz9] at h3
          obtain rfl : b = 16 := by omega
          refine cw_exit ?_
          refine ex_pass_exit ?_
          refine ex_pass_exit ?_
          refine ex_block_hit ?_
          refine ex_block ?_
          refine ex_then ?_
          refine cw_region ?_
          refine sq_r (ry_add rfl rfl (by omega)) ?_
          refine sq_r (ry_move rfl) ?_
          refine sq_nil ?_
          exact ex_again (x := (i, a)) (i + 1, a2) ⟨by first | omega | (simp only []; omega), stepsN_next hs hn hxn hs2, ha2, hy2⟩ (by simp only; omega) (Sub.cons rfl (Sub.cons rfl (Sub.cons rfl (Sub.cons rfl (Sub.cons rfl (Sub.nil _)))))) (fun w hw => Keep.mem hw)
    · try simp only [bz0, bz1, bz2, bz3, bz4, bz5, bz6, bz7, bz8, bz9] at h1
      refine cw_exit ?_
      refine ex_pass_exit ?_
      refine ex_pass_exit ?_
      refine ex_block_hit ?_
      refine ex_then ?_
      refine cw_seq ?_
      refine cw_region ?_
      refine sq_r (ry_move rfl) ?_
      refine sq_r (ry_assign rfl) ?_
      refine sq_nil ?_
      refine ex_then ?_
      refine cw_ret ?_
      refine ex_ret (.inl rfl) (res_1 rfl (rv_tmp rfl)) (fun w1 hw => ?_)
      obtain rfl : i = t.ns.xs.length := by omega
      exact ⟨⟨false, b28, 0, t.ns.xs.length, t.ns.xs.length, none⟩, rfl, by rw [hv0, hs]; rfl, by rw [hv0, hs]; exact (Keep.mem hw : Mem w [own iec 1 ⟨false, b28, 0, t.ns.xs.length, t.ns.xs.length, none⟩ a] _)⟩
instance tsteps_i {w0 : World} {L : List Ent} {t : Tri} [ht : HdD w0 L t] : FnC Try.prog 39 w0 L [.agg (tcells t)] (Sv) (fun zz => zz.val) (fun zz => own iec 1 zz ((stepsV t.bits t.ns.xs).getD []) :: L) (fun zz => zz.nil = (stepsV t.bits t.ns.xs).isNone) (True) := ⟨fun hp w hw => (tsteps_c w t (ht.h w hw)).mono fun e w' ⟨x, h1, h2, h3⟩ => ⟨x, h1, h2, hw.call h3⟩⟩

end Go.Proofs.Ytklhkejhndnhbaa

/- A trie in use: walked. -/
namespace Go.Proofs.Ytklhkejhndnhbaa
open Go.Eng Go.Kb
set_option maxRecDepth 20000 in
theorem tright_c (w : World) (t : Tri) (ht : Deep.good (hp w) t) : Calls Try.prog 22 #[.agg (tcells t)] w fun e w' => e = .returned (.bool ((stepsV t.bits t.ns.xs).isSome)) ∧ Mem w [] w' := by
  have ght : GvD w t := ⟨ht⟩
  refine calls_of (args := [_]) Try.func22 rfl Try.ntmps22 rfl ?_
  change Cw _ _ _ _ _ [(0, .agg (tcells t))] []
  refine cw_seq ?_
  refine cw_region ?_
  refine sq_boxA rfl fun b1 => ?_
  refine sq_r (ry_assign rfl) ?_
  refine sq_nil ?_
  refine ex_then ?_
  refine cw_seq ?_
  refine cw_region ?_
  refine sq_r (ry_whole rfl) ?_
  refine sq_callC rfl trivial fun x4 hp4 => ?_
  refine sq_r (ry_someS Try.underlying36 rfl) ?_
  refine sq_r (ry_assign rfl) ?_
  refine sq_nil ?_
  refine ex_then ?_
  refine cw_ret ?_
  refine ex_ret (.inl rfl) (res_1 rfl (rv_tmp rfl)) (fun w1 hw => ?_)
  exact ⟨congrArg (fun b => Ending.returned (Value.bool b)) (by rw [hp4]; cases stepsV t.bits t.ns.xs <;> rfl), Keep.mem hw⟩
instance tright_i {w0 : World} {L : List Ent} {t : Tri} [ht : HdD w0 L t] : FnQ Try.prog 22 w0 L [.agg (tcells t)] (.bool ((stepsV t.bits t.ns.xs).isSome)) (True) := ⟨fun hp w hw => tright_c w t (ht.h w hw)⟩
set_option maxRecDepth 20000 in
theorem twalk_c (w : World) (t : Tri) (k : Key) (ht : Deep.good (hp w) t) : Calls Try.prog 9 #[.agg (tcells t), .agg (kcells k)] w fun e w' => ∃ zz : Sv, e = .returned (zz.val) ∧ (True) ∧ Mem w [own iec 1 zz (walkV t.bits t.ns.xs k)] w' := by
  have ght : GvD w t := ⟨ht⟩
  refine calls_of (args := [_, _]) Try.func9 rfl Try.ntmps9 rfl ?_
  change Cw _ _ _ _ _ [(0, .agg (tcells t)), (1, .agg (kcells k))] []
  refine cw_seq ?_
  refine cw_region ?_
  refine sq_boxA rfl fun b2 => ?_
  refine sq_boxA rfl fun b3 => ?_
  refine sq_r (ry_assign rfl) ?_
  refine sq_nil ?_
  refine ex_then ?_
  refine cw_seq ?_
  refine cw_seq ?_
  refine cw_quiet (by kernel_rfl) (by kernel_rfl) ?_
  refine qt_r (ry_whole rfl) ?_
  refine qt_y (yl_callC rfl trivial) ?_
  refine qt_r (ry_not rfl) ?_
  refine qt_r (ry_move rfl) ?_
  refine qt_gf rfl rfl rfl (fun hg => (Ry.yl (ry_whole rfl))) ?_
  refine qt_gf rfl rfl rfl (fun hg => (Ry.yl (ry_field (o' := 0) rfl rfl))) ?_
  refine qt_gf rfl rfl rfl (fun hg => (Ry.yl (ry_cellc (ev_c hg rfl)))) ?_
  refine qt_gf rfl rfl rfl (fun hg => yl_callC (evl_cons (ev_c hg rfl) (evl_cons (ev_c hg rfl) evl_nil)) trivial) ?_
  refine qt_gf rfl rfl rfl (fun hg => (Ry.yl (ry_whole rfl))) ?_
  refine qt_gf rfl rfl rfl (fun hg => (Ry.yl (ry_ne (ev_c hg rfl) (ev_c hg rfl)))) ?_
  refine qt_r (ry_or rfl rfl rfl) ?_
  refine qt_nil ?_
  refine ex_then ?_
  refine cw_cond rfl (fun h0 => ?_) (fun h0 => ?_)
  · try simp only [bz0, bz1, bz2, bz3, bz4, bz5, bz6, bz7, bz8, bz9] at h0
    have hk : walkOk t.bits t.ns.xs k = false := by rw [walkOk]; rcases h0 with h | h; rw [h]; rfl; rw [decide_eq_false h]; simp
    refine cw_seq ?_
    refine cw_region ?_
    refine sq_r (ry_assign rfl) ?_
    refine sq_nil ?_
    refine ex_then ?_
    refine cw_ret ?_
    refine ex_pass_ret ?_
    refine ex_ret (.inl rfl) (res_1 rfl (rv_tmp rfl)) (fun w1 hw => ?_)
    exact ⟨Sv.none, rfl, trivial, by rw [walkV, if_neg (by rw [hk]; simp)]; exact Mem.nilOwn iec 1 (Keep.mem hw : Mem w [] _)⟩
  · try simp only [bz0, bz1, bz2, bz3, bz4, bz5, bz6, bz7, bz8, bz9] at h0
    have hs : (stepsV t.bits t.ns.xs).isSome = true := by simpa using h0.1
    have hk : walkOk t.bits t.ns.xs k = true := by rw [walkOk, hs]; simpa using h0.2
    obtain ⟨hr, hb, hl1, hl2⟩ := inR_of hs
    refine cw_skip ?_
    refine ex_then ?_
    refine cw_seq ?_
    refine cw_region ?_
    refine sq_buildSlice (enc := iec) (vals := [_]) [0] rfl rfl rfl (by decide) (by decide) fun b19 => ?_
    refine sq_r (ry_assign rfl) ?_
    refine sq_nil ?_
    refine ex_then ?_
    refine cw_seq ?_
    refine cw_seq ?_
    refine cw_region ?_
    refine sq_r (ry_field (o' := 0) rfl rfl) ?_
    refine sq_r (ry_cellc rfl) ?_
    refine sq_r (ry_quo rfl rfl (by omega) (by omega)) ?_
    refine sq_r (ry_move rfl) ?_
    refine sq_nil ?_
    refine ex_then ?_
    refine cw_block ?_
    refine cw_loop (X := Nat × Sv) (fun zz => [(23, .int .i64 (zz.1 : Nat)), (5, zz.2.val), (2, .pointer (some ⟨b2, 0, none⟩)), (3, .pointer (some ⟨b3, 0, none⟩)), (22, .int .i64 (t.bits / 4))]) (fun zz => [own iec 1 zz.2 (wayL t.ns.xs k zz.1), blk b2 (tcells t) 29, blk b3 (kcells k) 24]) (fun zz => zz.1 ≤ (t.bits / 4).toNat ∧ ∀ j, j < zz.1 → chain t.ns.xs k (j + 1) ≠ 0) (fun zz => (t.bits / 4).toNat - zz.1) (0, ⟨false, b19, 0, 1, 1, none⟩) ⟨Nat.zero_le _, fun j hj => absurd hj (Nat.not_lt_zero j)⟩ (Sub.cons rfl (Sub.cons rfl (Sub.cons rfl (Sub.cons rfl (Sub.cons rfl (Sub.nil _)))))) (fun w hw => (Keep.mem hw : Mem _ [own iec 1 ⟨false, b19, 0, 1, 1, none⟩ [0], blk b2 (tcells t) 29, blk b3 (kcells k) 24] _)) ?_
    rintro ⟨i, s1⟩ ⟨hi1, hi2⟩
    dsimp only
    simp only at hi1 hi2
    have hcl := chain_lt (k := k) hr hl1 i
    have hst := kst_lt k i
    have hke := kst_eq k i
    refine cw_seq ?_
    refine cw_region ?_
    refine sq_r (ry_int rfl rfl rfl) ?_
    refine sq_nil ?_
    refine ex_then ?_
    refine cw_seq ?_
    refine cw_cond rfl (fun h1 => ?_) (fun h1 => ?_)
    · try simp only [bz0, bz1, bz2, bz3, bz4, bz5, bz6, bz7, bz8, bz9] at h1
      refine cw_skip ?_
      refine ex_then ?_
      refine cw_seq ?_
      refine cw_block ?_
      refine cw_seq ?_
      refine cw_region ?_
      refine sq_r (ry_move rfl) ?_
      refine sq_r (ry_assign rfl) ?_
      refine sq_nil ?_
      refine ex_then ?_
      refine cw_seq ?_
      refine cw_quiet (by kernel_rfl) (by kernel_rfl) ?_
      refine qt_r (ry_field (o' := 1) rfl rfl) ?_
      refine qt_r (ry_cellc rfl) ?_
      refine qt_r (ry_move rfl) ?_
      refine qt_r (ry_move rfl) ?_
      refine qt_r (ry_idxH rfl rfl i rfl (by rw [wayL_length]; omega)) ?_
      refine qt_r (ry_elemcH (j := 0) rfl i (wayL_get (Nat.le_refl i)) rfl (by decide)) ?_
      refine qt_r (ry_whole rfl) ?_
      refine qt_r (ry_move rfl) ?_
      refine qt_y (yl_callC rfl trivial) ?_
      obtain ⟨n, hn⟩ := get_some (xs := t.ns.xs) (i := (chain t.ns.xs k i)) hcl
      refine qt_r (ry_idxH rfl rfl (chain t.ns.xs k i) rfl hcl) ?_
      refine qt_r (ry_field rfl rfl) ?_
      refine qt_r (ry_idxA rfl rfl (by omega) (by omega)) ?_
      refine qt_r (ry_nx rfl (chain t.ns.xs k i) hn ((kstep k ((i : Nat) : Int)).toNat) (by omega) (by simp only [Nat.add_eq, Int.toNat_natCast, Nat.mul_one, Nat.zero_add, Nat.add_zero] <;> omega)) ?_
      refine qt_r (ry_assign rfl) ?_
      refine qt_nil ?_
      refine ex_then ?_
      refine cw_seq ?_
      refine cw_seq ?_
      refine cw_region ?_
      refine sq_r (ry_move rfl) ?_
      refine sq_r (ry_int rfl rfl rfl) ?_
      refine sq_nil ?_
      refine ex_then ?_
      refine cw_cond rfl (fun h2 => ?_) (fun h2 => ?_)
      · try simp only [bz0, bz1, bz2, bz3, bz4, bz5, bz6, bz7, bz8, bz9] at h2
        have h00 : chain t.ns.xs k (i + 1) = 0 := by rw [chain, getD_some hn]; have : n.nx (kst k i) = 0 := h2; omega
        refine cw_exit ?_
        refine ex_pass_exit ?_
        refine ex_block_miss rfl ?_
        refine ex_pass_exit ?_
        refine ex_pass_exit ?_
        refine ex_block_hit ?_
        refine ex_then ?_
        refine cw_seq ?_
        refine cw_region ?_
        refine sq_r (ry_move rfl) ?_
        refine sq_r (ry_assign rfl) ?_
        refine sq_nil ?_
        refine ex_then ?_
        refine cw_ret ?_
        refine ex_ret (.inl rfl) (res_1 rfl (rv_tmp rfl)) (fun w1 hw => ?_)
        exact ⟨s1, rfl, trivial, by rw [walkV, if_pos hk, wayLen_stop (by omega) hi2 h00]; exact Keep.mem hw⟩
      · try simp only [bz0, bz1, bz2, bz3, bz4, bz5, bz6, bz7, bz8, bz9] at h2
        have hnx : n.nx (kstep k (i : Nat)).toNat = ((chain t.ns.xs k (i + 1) : Nat) : Int) := by rw [chain, getD_some hn]; have := (hr _ n hn (kst k i) hst).1; show n.nx (kst k i) = _; omega
        refine cw_skip ?_
        refine ex_then ?_
        refine cw_region ?_
        refine sq_r (ry_move rfl) ?_
        refine sq_r (ry_move rfl) ?_
        refine sq_buildSlice (enc := iec) (vals := [_]) [n.nx ((kstep k ((i : Nat) : Int)).toNat)] rfl rfl rfl (by decide) (by decide) fun b43 => ?_
        refine sq_append (s := s1) (ys := [n.nx ((kstep k ((i : Nat) : Int)).toNat)]) rfl rfl (by decide) (fun w hw => src_rows (s := ⟨false, b43, 0, 1, 1, none⟩) Try.underlying36 (by decide) ((inferInstance : Hd _ _ ⟨false, b43, 0, 1, 1, none⟩ iec 1 [n.nx ((kstep k ((i : Nat) : Int)).toNat)]).h w hw)) (by rw [wayL_length]; simp only [List.length_cons, List.length_nil]; omega) (by rw [wayL_length]; simp only [List.length_cons, List.length_nil]; omega) fun s44 hs44 hl44 => ?_
        refine sq_r (ry_assign rfl) ?_
        refine sq_nil ?_
        refine ex_block ?_
        refine ex_then ?_
        refine cw_region ?_
        refine sq_r (ry_add rfl rfl (by omega)) ?_
        refine sq_r (ry_move rfl) ?_
        refine sq_nil ?_
        exact ex_again (x := (i, s1)) (i + 1, s44) ⟨by first | omega | (simp only []; omega), fun j hj => (Nat.lt_or_ge j i).elim (hi2 j) fun h => by obtain rfl : j = i := (by first | omega | (simp only []; omega)); intro h9; rw [h9] at hnx; exact h2 hnx⟩ (by simp only; omega) (Sub.cons rfl (Sub.cons rfl (Sub.cons rfl (Sub.cons rfl (Sub.cons rfl (Sub.nil _)))))) (fun w hw => by rw [wayL_succ, ← hnx]; exact Keep.mem hw)
    · try simp only [bz0, bz1, bz2, bz3, bz4, bz5, bz6, bz7, bz8, bz9] at h1
      refine cw_exit ?_
      refine ex_pass_exit ?_
      refine ex_pass_exit ?_
      refine ex_block_hit ?_
      refine ex_then ?_
      refine cw_seq ?_
      refine cw_region ?_
      refine sq_r (ry_move rfl) ?_
      refine sq_r (ry_assign rfl) ?_
      refine sq_nil ?_
      refine ex_then ?_
      refine cw_ret ?_
      refine ex_ret (.inl rfl) (res_1 rfl (rv_tmp rfl)) (fun w1 hw => ?_)
      exact ⟨s1, rfl, trivial, by rw [walkV, if_pos hk, wayLen_all (fun j hj => hi2 j (by omega)), show (t.bits / 4).toNat = i by omega]; exact Keep.mem hw⟩
instance twalk_i {w0 : World} {L : List Ent} {t : Tri} {k : Key} [ht : HdD w0 L t] : FnC Try.prog 9 w0 L [.agg (tcells t), .agg (kcells k)] (Sv) (fun zz => zz.val) (fun zz => own iec 1 zz (walkV t.bits t.ns.xs k) :: L) (fun zz => True) (True) := ⟨fun hp w hw => (twalk_c w t k (ht.h w hw)).mono fun e w' ⟨x, h1, h2, h3⟩ => ⟨x, h1, h2, hw.call h3⟩⟩
set_option maxRecDepth 20000 in
theorem tfind_c (w : World) (t : Tri) (k : Key) (ht : Deep.good (hp w) t) : Calls Try.prog 29 #[.agg (tcells t), .agg (kcells k)] w fun e w' => e = .returned (.tuple #[.int .i64 (findN t.bits t.ns.xs k), .int .u16 ((findH t.bits t.ns.xs k).toNat : Nat), .int .i64 (findE t.bits t.ns.xs k)]) ∧ Mem w [] w' := by
  have ght : GvD w t := ⟨ht⟩
  refine calls_of (args := [_, _]) Try.func29 rfl Try.ntmps29 rfl ?_
  change Cw _ _ _ _ _ [(0, .agg (tcells t)), (1, .agg (kcells k))] []
  refine cw_seq ?_
  refine cw_region ?_
  refine sq_boxA rfl fun b2 => ?_
  refine sq_boxA rfl fun b3 => ?_
  refine sq_r (ry_assign rfl) ?_
  refine sq_r (ry_assign rfl) ?_
  refine sq_r (ry_assign rfl) ?_
  refine sq_nil ?_
  refine ex_then ?_
  refine cw_seq ?_
  refine cw_region ?_
  refine sq_r (ry_whole rfl) ?_
  refine sq_r (ry_whole rfl) ?_
  refine sq_callC rfl trivial fun x14 hp14 => ?_
  refine sq_r (ry_assign rfl) ?_
  refine sq_nil ?_
  refine ex_then ?_
  refine cw_seq ?_
  refine cw_seq ?_
  refine cw_region ?_
  refine sq_r (ry_move rfl) ?_
  refine sq_r (ry_lenH rfl) ?_
  refine sq_r (ry_int rfl rfl rfl) ?_
  refine sq_nil ?_
  refine ex_then ?_
  refine cw_cond rfl (fun h0 => ?_) (fun h0 => ?_)
  · try simp only [bz0, bz1, bz2, bz3, bz4, bz5, bz6, bz7, bz8, bz9] at h0
    have hk : walkOk t.bits t.ns.xs k = false := walkV_len.1 (by omega)
    have he : findE t.bits t.ns.xs k = 1 := by rw [findE, if_neg (by rw [hk]; simp)]
    refine cw_seq ?_
    refine cw_region ?_
    refine sq_r (ry_assign rfl) ?_
    refine sq_r (ry_assign rfl) ?_
    refine sq_r (ry_assign rfl) ?_
    refine sq_nil ?_
    refine ex_then ?_
    refine cw_ret ?_
    refine ex_pass_ret ?_
    refine ex_ret (.inl rfl) (res_3 rfl (rv_tmp rfl) (rv_tmp rfl) (rv_tmp rfl)) (fun w1 hw => ?_)
    exact ⟨by rw [findN, findH, he]; rfl, Keep.mem hw⟩
  · try simp only [bz0, bz1, bz2, bz3, bz4, bz5, bz6, bz7, bz8, bz9] at h0
    have hk : walkOk t.bits t.ns.xs k = true := by cases h : walkOk t.bits t.ns.xs k with | true => rfl | false => exact absurd (walkV_len.2 h) (by omega)
    have hs : (stepsV t.bits t.ns.xs).isSome = true := by rw [walkOk, Bool.and_eq_true] at hk; exact hk.1
    obtain ⟨hr, hb, hl1, hl2⟩ := inR_of hs
    refine cw_skip ?_
    refine ex_then ?_
    refine cw_seq ?_
    refine cw_region ?_
    refine sq_allocA fun b8 => ?_
    refine sq_nil ?_
    refine ex_then ?_
    refine cw_seq ?_
    refine cw_seq ?_
    refine cw_region ?_
    refine sq_r (ry_move rfl) ?_
    refine sq_r (ry_lenH rfl) ?_
    refine sq_r (ry_move rfl) ?_
    refine sq_nil ?_
    refine ex_then ?_
    refine cw_block ?_
    refine cw_bd x14 fun hbd => ?_
    refine cw_loop (X := Nat) (fun zz => [(20, .int .i64 (zz : Nat)), (8, .pointer (some ⟨b8, 0, none⟩)), (2, .pointer (some ⟨b2, 0, none⟩)), (3, .pointer (some ⟨b3, 0, none⟩)), (18, x14.val), (19, .int .i64 ((walkV t.bits t.ns.xs k).length : Nat))]) (fun zz => [blk b8 (slcells (bestOf t.ns.xs k zz)) 76, own iec 1 x14 (walkV t.bits t.ns.xs k), blk b2 (tcells t) 29, blk b3 (kcells k) 24]) (fun zz => zz ≤ (walkV t.bits t.ns.xs k).length) (fun zz => (walkV t.bits t.ns.xs k).length - zz) 0 (Nat.zero_le _) (Sub.cons rfl (Sub.cons rfl (Sub.cons rfl (Sub.cons rfl (Sub.cons rfl (Sub.cons rfl (Sub.nil _))))))) (fun w hw => (Keep.mem hw : Mem _ [blk b8 (slcells Slt.no) 76, own iec 1 x14 (walkV t.bits t.ns.xs k), blk b2 (tcells t) 29, blk b3 (kcells k) 24] _)) ?_
    rintro i hI
    have hcl := chain_lt (k := k) hr hl1 i
    have hst := kst_lt k i
    have hke := kst_eq k i
    refine cw_seq ?_
    refine cw_region ?_
    refine sq_r (ry_int rfl rfl rfl) ?_
    refine sq_nil ?_
    refine ex_then ?_
    refine cw_seq ?_
    refine cw_cond rfl (fun h1 => ?_) (fun h1 => ?_)
    · try simp only [bz0, bz1, bz2, bz3, bz4, bz5, bz6, bz7, bz8, bz9] at h1
      refine cw_skip ?_
      refine ex_then ?_
      refine cw_seq ?_
      refine cw_block ?_
      refine cw_seq ?_
      refine cw_region ?_
      refine sq_r (ry_move rfl) ?_
      refine sq_r (ry_idxH rfl rfl i rfl (by omega)) ?_
      refine sq_r (ry_elemcH (j := 0) rfl i (walkV_get (by omega)) rfl (by decide)) ?_
      refine sq_r (ry_assign rfl) ?_
      refine sq_r (ry_assign rfl) ?_
      refine sq_nil ?_
      refine ex_then ?_
      refine cw_seq ?_
      refine cw_lin [10, 11] [[], [], [], [], [], [], [], [], [], [], [], [10]] [0, 1, 2, 3, 4, 5, 6, 7, 8, 9, 10, 11] [blk b2 (tcells t) 29, blk b3 (kcells k) 24] (fun _ hw => Keep.mem hw) (by kernel_rfl) (by kernel_rfl) ?_
      refine ln_r rfl (ry_field (o' := 1) rfl rfl) ?_
      refine ln_r rfl (ry_cellc rfl) ?_
      refine ln_r rfl (ry_move rfl) ?_
      refine ln_r rfl (ry_whole rfl) ?_
      refine ln_r rfl (ry_move rfl) ?_
      refine ln_y rfl (yl_callC rfl trivial) ?_
      obtain ⟨n, hn⟩ := get_some (xs := t.ns.xs) (i := (chain t.ns.xs k i)) hcl
      refine ln_r rfl (ry_idxH rfl rfl (chain t.ns.xs k i) rfl hcl) ?_
      refine ln_r rfl (ry_field rfl rfl) ?_
      refine ln_r rfl (ry_idxA rfl rfl (by omega) (by omega)) ?_
      refine ln_r rfl (ry_slot rfl (chain t.ns.xs k i) hn ((kstep k ((i : Nat) : Int)).toNat) (by omega) (by simp only [Nat.add_eq, Int.toNat_natCast, Nat.mul_one, Nat.zero_add, Nat.add_zero] <;> omega)) ?_
      refine ln_st rfl (st_allocA fun b11 => ⟨fun _ hw => Keep.mem hw, ?_⟩)
      refine ln_st rfl (st_storeW rfl rfl ⟨fun _ hw => Keep.mem hw, ?_⟩)
      refine ln_nil ?_
      refine ex_then ?_
      refine cw_seq ?_
      refine cw_region ?_
      refine sq_r (ry_field (o' := 0) rfl rfl) ?_
      refine sq_r (ry_cellc rfl) ?_
      refine sq_r (ry_field (o' := 0) rfl rfl) ?_
      refine sq_r (ry_cellc rfl) ?_
      refine sq_r (ry_int rfl rfl rfl) ?_
      refine sq_nil ?_
      refine ex_then ?_
      refine cw_cond rfl (fun h2 => ?_) (fun h2 => ?_)
      · try simp only [bz0, bz1, bz2, bz3, bz4, bz5, bz6, bz7, bz8, bz9] at h2
        have hbn : bestOf t.ns.xs k (i + 1) = n.sl (kstep k (i : Nat)).toNat := by simp only [bestOf, getD_some hn]; exact if_pos h2
        refine cw_region ?_
        refine sq_r (ry_whole rfl) ?_
        refine sq_storeW rfl rfl ?_
        refine sq_nil ?_
        refine ex_block ?_
        refine ex_then ?_
        refine cw_region ?_
        refine sq_r (ry_add rfl rfl (by omega)) ?_
        refine sq_r (ry_move rfl) ?_
        refine sq_nil ?_
        exact ex_again (x := (i)) (i + 1) (by first | omega | (simp only []; omega)) (by first | omega | (simp only []; omega)) (Sub.cons rfl (Sub.cons rfl (Sub.cons rfl (Sub.cons rfl (Sub.cons rfl (Sub.cons rfl (Sub.nil _))))))) (fun w hw => by rw [hbn]; exact Keep.mem hw)
      · try simp only [bz0, bz1, bz2, bz3, bz4, bz5, bz6, bz7, bz8, bz9] at h2
        have hbn : bestOf t.ns.xs k (i + 1) = bestOf t.ns.xs k i := by simp only [bestOf, getD_some hn]; exact if_neg h2
        refine cw_skip ?_
        refine ex_block ?_
        refine ex_then ?_
        refine cw_region ?_
        refine sq_r (ry_add rfl rfl (by omega)) ?_
        refine sq_r (ry_move rfl) ?_
        refine sq_nil ?_
        exact ex_again (x := (i)) (i + 1) (by first | omega | (simp only []; omega)) (by first | omega | (simp only []; omega)) (Sub.cons rfl (Sub.cons rfl (Sub.cons rfl (Sub.cons rfl (Sub.cons rfl (Sub.cons rfl (Sub.nil _))))))) (fun w hw => by rw [hbn]; exact Keep.mem hw)
    · try simp only [bz0, bz1, bz2, bz3, bz4, bz5, bz6, bz7, bz8, bz9] at h1
      refine cw_exit ?_
      refine ex_pass_exit ?_
      refine ex_pass_exit ?_
      refine ex_block_hit ?_
      refine ex_then ?_
      refine cw_seq ?_
      refine cw_seq ?_
      refine cw_region ?_
      refine sq_r (ry_field (o' := 0) rfl rfl) ?_
      refine sq_r (ry_cellc rfl) ?_
      refine sq_r (ry_int rfl rfl rfl) ?_
      refine sq_nil ?_
      refine ex_then ?_
      refine cw_cond rfl (fun h3 => ?_) (fun h3 => ?_)
      · try simp only [bz0, bz1, bz2, bz3, bz4, bz5, bz6, bz7, bz8, bz9] at h3
        have hfe : findS t.bits t.ns.xs k = bestOf t.ns.xs k i := by rw [findS, show (walkV t.bits t.ns.xs k).length = i by omega]
        have he : findE t.bits t.ns.xs k = 6 := by rw [findE, if_pos hk, hfe, if_pos h3]
        refine cw_seq ?_
        refine cw_region ?_
        refine sq_r (ry_assign rfl) ?_
        refine sq_r (ry_assign rfl) ?_
        refine sq_r (ry_assign rfl) ?_
        refine sq_nil ?_
        refine ex_then ?_
        refine cw_ret ?_
        refine ex_pass_ret ?_
        refine ex_ret (.inl rfl) (res_3 rfl (rv_tmp rfl) (rv_tmp rfl) (rv_tmp rfl)) (fun w1 hw => ?_)
        exact ⟨by rw [findN, findH, he]; rfl, Keep.mem hw⟩
      · try simp only [bz0, bz1, bz2, bz3, bz4, bz5, bz6, bz7, bz8, bz9] at h3
        have hfe : findS t.bits t.ns.xs k = bestOf t.ns.xs k i := by rw [findS, show (walkV t.bits t.ns.xs k).length = i by omega]
        have he : findE t.bits t.ns.xs k = 0 := by rw [findE, if_pos hk, hfe, if_neg h3]
        have hbr := bestOf_rng (k := k) hs i
        refine cw_skip ?_
        refine ex_then ?_
        refine cw_seq ?_
        refine cw_quiet (by kernel_rfl) (by kernel_rfl) ?_
        refine qt_r (ry_field (o' := 0) rfl rfl) ?_
        refine qt_r (ry_cellc rfl) ?_
        refine qt_r (ry_sub rfl rfl (by omega)) ?_
        refine qt_r (ry_field (o' := 1) rfl rfl) ?_
        refine qt_r (ry_cellc rfl) ?_
        refine qt_r (ry_assign rfl) ?_
        refine qt_r (ry_assign rfl) ?_
        refine qt_r (ry_assign rfl) ?_
        refine qt_nil ?_
        refine ex_then ?_
        refine cw_ret ?_
        refine ex_ret (.inl rfl) (res_3 rfl (rv_tmp rfl) (rv_tmp rfl) (rv_tmp rfl)) (fun w1 hw => ?_)
        exact ⟨by rw [findN, findH, he, hfe]; rfl, Keep.mem hw⟩
instance tfind_i {w0 : World} {L : List Ent} {t : Tri} {k : Key} [ht : HdD w0 L t] : FnQ Try.prog 29 w0 L [.agg (tcells t), .agg (kcells k)] (.tuple #[.int .i64 (findN t.bits t.ns.xs k), .int .u16 ((findH t.bits t.ns.xs k).toNat : Nat), .int .i64 (findE t.bits t.ns.xs k)]) (True) := ⟨fun hp w hw => tfind_c w t k (ht.h w hw)⟩

end Go.Proofs.Ytklhkejhndnhbaa

