/- Steps that make or write memory, and the line of a region that draws its order. -/
import Derived.Test.YtaipiecplldinaaGreatC1
import Derived.Lib.AppendZerosOnto
import Derived.Lib.Overlaps
import Derived.Lib.AppendZeros
import Derived.Maps.Keyed
set_option maxRecDepth 20000

set_option linter.unusedSimpArgs false
set_option linter.unusedVariables false
namespace Go.Eng
open Go.RowKit
section
variable {P : Program} {N : Fra} {w0 : World} {env : Env} {L R R1 R2 : List Ent} {Q : Exit → Act → World → Prop} {d : Option Tmp} {ty : TypeId} {ps : String} {af : Array Edge} {gd : Option (Nat × Bool)} {K : Value → List Ent → Prop}
def Stp (P : Program) (N : Fra) (w0 : World) (env : Env) (L : List Ent) (o : Oper) (K : Value → List Ent → Prop) : Prop :=
 ∀ a w, Rep N env a → Mem w0 L w → upon P w (fun v w' => ∃ L', Mem w0 L' w' ∧ K v L') ((execOp a.eval o).run P w)
theorem st_run {o : Oper} (h : ∀ a w, Rep N env a → Mem w0 L w → ∃ v w' L', (execOp a.eval o).run P w = .ok (.value v) w' ∧ Mem w0 L' w' ∧ K v L') : Stp P N w0 env L o K := fun a w ha hw => by
 obtain ⟨v, w', L', h1, h2, h3⟩ := h a w ha hw
 rw [h1]; exact ⟨L', h2, h3⟩
theorem st_skip {o : Oper} (h : ∀ a w, Rep N env a → Mem w0 L w → ∃ w' L', (execOp a.eval o).run P w = .ok .skip w' ∧ Mem w0 L' w' ∧ K undef L') : Stp P N w0 env L o K := fun a w ha hw => by
 obtain ⟨w', L', h1, h2, h3⟩ := h a w ha hw
 rw [h1]; exact ⟨L', h2, h3⟩
theorem upon_mono {w : World} {R R' : Value → World → Prop} (h : ∀ v w, R v w → R' v w) {r : Result Next} (hr : upon P w R r) : upon P w R' r := by
 unfold upon at hr ⊢
 split at hr
 ·
  exact h _ _ hr
 ·
  exact h _ _ hr
 ·
  exact ⟨hr.1, hr.2.mono fun e w'' ⟨v, he, hv⟩ => ⟨v, he, h _ _ hv⟩⟩
 ·
  exact hr.elim
theorem st_mono {o : Oper} {K' : Value → List Ent → Prop} (h : Stp P N w0 env L o K') (hk : ∀ v L', K' v L' → ∃ L'', (∀ w, Mem w0 L' w → Mem w0 L'' w) ∧ K v L'') : Stp P N w0 env L o K := fun a w ha hw =>
 upon_mono (fun v _ ⟨L', h1, h2⟩ => by obtain ⟨L'', h3, h4⟩ := hk v L' h2; exact ⟨L'', h3 _ h1, h4⟩) (h a w ha hw)
theorem st_callC {X : Type} {val : X → Value} {L' : X → List Ent} {pr : X → Prop} {pre : Prop} {f : FuncId} {xs : List Operand} {ts : Array TypeId} {vs : List Value} [hf : IsFn P f] (hx : evl env xs = some vs)
  [hc : FnC P f w0 L vs X val L' pr pre] (hp : pre) (hk : ∀ x, pr x → K (val x) (L' x)) :
  Stp P N w0 env L ⟨d, .call { callee := .value (.func f), args := xs.toArray, argTypes := ts }, ty, ps, af, gd⟩ K := fun a w ha hw => by
 rw [run_call hf w rfl, ha.evl hx]
 exact ⟨rfl, (hc.h hp w hw).mono fun e w' ⟨x, he, hpx, hm⟩ => ⟨val x, he, L' x, hm, hk x hpx⟩⟩
section
variable {α : Type} {enc : α → Array Value} {c : Nat} {s : Sv} {xs ys : List α}
theorem st_alloc {t : TypeId} {z : Value} [hz : ZeroT P t z] (hk : ∀ b, K ((.pointer (some ⟨b, 0, none⟩))) ((blk b z.cells t :: L))) :
  Stp P N w0 env L ⟨d, .alloc t, ty, ps, af, none⟩ K :=
 st_run fun a w ha hw => ⟨_, _, _, by simp only [execOp, Instr.alloc, newVar, newRow, Sem.run_bind, run_zeroValue' w hz, newObj, Sem.run, Result.andThen, Sem.run_pure]; rfl, hw.alloc z.cells t, hk _⟩
theorem st_allocA {t : TypeId} {cs : Array Value} [hz : ZeroT P t (.agg cs)] (hk : ∀ b, K ((.pointer (some ⟨b, 0, none⟩))) ((blk b cs t :: L))) :
  Stp P N w0 env L ⟨d, .alloc t, ty, ps, af, none⟩ K := st_alloc (z := .agg cs) hk
theorem st_store {t : TypeId} {x y : Operand} {i b o : Nat} {cs : Array Value} {T : TypeId} {v : Value} (hx : ev env x = some (.pointer (some ⟨b, o, none⟩))) (hy : ev env y = some v) [ht : OneT P t] [hh : Has L b cs T i] (ho : o < cs.size) (hv : v.oneCell' = true) {cs' : Array Value} {L' : List Ent} (hcs : cs.setIfInBounds o v = cs') [hu : Upd L i (blk b cs' T) L'] (hk : K undef (L')) :
  Stp P N w0 env L ⟨none, .store t x y, ty, ps, af, none⟩ K :=
 st_skip fun a w ha hw => by
  have hi := hh.h
  have hb := hw.block hi
  have hc : w.cell? ⟨b, o, none⟩ = some cs[o] := by rw [hw.cell hi]; simp [ho]
  have hf : w.frozen? ⟨b, o, none⟩ = false := frozen_of_row w b o cs T hb
  subst hcs
  refine ⟨w.setCell ⟨b, o, none⟩ v, _, ?_, ?_, hk⟩
  ·
   have h1 : (storeCells ⟨b, o, none⟩ [v]).run P w = .ok () (w.setCell ⟨b, o, none⟩ v) := by
    have := run_storeCells_at (P := P) b o T [v] 0 cs w hb (by simp; omega) (by simpa using hv)
    rw [this, setCell_eq_setRow w b o cs T (0, 0) v hb]
    congr 2
    apply Array.ext'
    simp [List.set_eq_take_append_cons_drop, ho]
   have hcs : v.cells = #[v] := by cases v <;> simp_all [Value.oneCell', Value.cells]
   simp only [execOp, ha.ev hx, ha.ev hy, Instr.storeAt, Instr.sureAddr, storeVar, Sem.run_bind, Sem.run_pure, Result.andThen, run_sizeOf' w ht.size, hcs]
   simp [h1]
  ·
   rw [setCell_eq_setRow w b o cs T (0, 0) v hb]
   rw [← hu.h]
   exact hw.setRow hi _
theorem st_storeN {t : TypeId} {x y : Operand} {i b o n : Nat} {cs vs : Array Value} {T : TypeId} (hx : ev env x = some (.pointer (some ⟨b, o, none⟩))) (hy : ev env y = some (.agg vs)) [ht : RowT P t n] [hh : Has L b cs T i] [hs : SizeIs vs n] (ho : o + n ≤ cs.size) {cs' : Array Value} {L' : List Ent} (hcs : over cs o vs = cs') [hu : Upd L i (blk b cs' T) L'] (hk : K undef (L')) :
  Stp P N w0 env L ⟨none, .store t x y, ty, ps, af, none⟩ K :=
 st_skip fun a w ha hw => by
  have hi := hh.h
  have hn := hs.h
  have hv := hs.one
  have hb := hw.block hi
  subst hcs
  refine ⟨_, _, ?_, by rw [← hu.h]; exact hw.setRow hi _, hk⟩
  have h1 := run_storeCells_at (P := P) b o T vs.toList 0 cs w hb (by simp; omega) (fun v hv' => (Array.all_eq_true_iff_forall_mem.1 hv) v (by simpa using hv'))
  simp only [execOp, ha.ev hx, ha.ev hy, Instr.storeAt, Instr.sureAddr, storeVar, Value.cells, Sem.run_bind, Sem.run_pure, Result.andThen, run_sizeOf' w ht.size, hn]
  simp [h1, over]
theorem st_storeW {t : TypeId} {x y : Operand} {i b n : Nat} {cs vs : Array Value} {T : TypeId} (hx : ev env x = some (.pointer (some ⟨b, 0, none⟩))) (hy : ev env y = some (.agg vs)) [ht : RowT P t n] [hh : Has L b cs T i] [hs : SizeIs vs n] [hc : SizeIs cs n] {L' : List Ent} [hu : Upd L i (blk b vs T) L'] (hk : K undef (L')) :
  Stp P N w0 env L ⟨none, .store t x y, ty, ps, af, none⟩ K := by
 have hn := hs.h
 have hc' := hc.h
 refine st_storeN hx hy (by omega) (?_ : over cs 0 vs = vs) hk
 apply Array.ext'
 simp [over]; omega
theorem st_append {t tx e : TypeId} {x y : Operand} {yv : Value} {by' i : Nat} [ht : SlT P t e c by'] [he : Enc enc c] (hx : ev env x = some s.val) (hy : ev env y = some yv) [q : Owns L s enc c xs i] (hc : 0 < c)
  (hs : ∀ w, Mem w0 L w → Src P c tx yv ys.length (flatR enc ys) w) (hb : (xs.length + ys.length) * by' ≤ 140737488355328) (h63 : xs.length + ys.length ≤ 140737488355328) {L' : Sv → List Ent} [hu : ∀ s', Upd L i (own enc c s' (xs ++ ys)) (L' s')]
  (hk : ∀ s' : Sv, s'.Ok → s'.len = (xs ++ ys).length → K (s'.val) ((L' s'))) :
  Stp P N w0 env L ⟨d, .call { callee := .builtin .append, args := #[x, y], argTypes := #[t, tx] }, ty, ps, af, none⟩ K :=
 st_run fun a w ha hw => by
  obtain ⟨s', w', h1, h2, h3, h4⟩ := append_own (ty := ty) ht hc hw q.h (hs w hw) hb h63
  refine ⟨s'.val, w', L' s', ?_, by rw [← (hu s').h]; exact h4, hk s' h2 h3⟩
  simp [execOp, ha.ev hx, ha.ev hy, resolve, invoke, builtin, h1, Result.andThen]
theorem st_buildSlice {t e : TypeId} {by' n : Nat} [ht : SlT P t e c by'] [he : Enc enc c] {ops : List (Nat × Operand)} {vals : List Value} (xs : List α) (hx : evp env ops = some (idx vals 0)) (hv : vals.map Value.cells = xs.map enc) (hn : xs.length = n) (hc : 0 < n * c) (h24 : n * c ≤ 16777216)
  (hk : ∀ b, K ((Sv.val ⟨false, b, 0, n, n, none⟩)) ((own enc c ⟨false, b, 0, n, n, none⟩ xs :: L))) :
  Stp P N w0 env L ⟨d, .buildSlice t n ops.toArray, ty, ps, af, none⟩ K :=
 st_run fun a w ha hw => by
  subst hn
  have e1 : (ops.toArray.map fun (p : Nat × Operand) => match p with | (i, x) => (i, a.eval x)) = (idx vals 0).toArray := by
   rw [← ha.evp hx]; simp
  refine ⟨_, _, _, ?_, hw.call (mem_new (enc := enc) (c := c) (xs := xs) (cs := (flatR enc xs).toArray) (e := e) rfl xs.length xs.length rfl (Nat.le_refl _) (len24 hc h24) (by simp [flatR_length]) fun i x hx j hj => by rw [← flatR_get (enc := enc) xs i x hx j hj]; simp), hk _⟩
  simp only [execOp, e1, Sem.run_bind, run_buildSlice ht hv hc h24 w, Result.andThen, Sem.run_pure]; rfl
theorem st_makeS {t e : TypeId} {by' n cap : Nat} {z : Value} {x y : Operand} {k k' : IntKind} {ix iy : Int} [ht : SlT P t e c by'] [hz : ZeroT P e z] (x0 : α) (h0 : enc x0 = z.cells) (hx : ev env x = some (.int k ix)) (hy : ev env y = some (.int k' iy)) (ex : ix = (n : Int)) (ey : iy = (cap : Int)) (hle : n ≤ cap) (hb : by' * cap ≤ 281474976710656) (h63 : cap ≤ 140737488355328)
  (hk : ∀ b, K ((Sv.val ⟨false, b, 0, n, cap, none⟩)) ((own enc c ⟨false, b, 0, n, cap, none⟩ (List.replicate n x0) :: L))) :
  Stp P N w0 env L ⟨d, .makeSlice t x y, ty, ps, af, none⟩ K :=
 st_run fun a w ha hw => by
  subst ex ey
  obtain ⟨w', h1, h2⟩ := run_makeS ht hz (k := k) (k' := k') (n := n) x0 h0 hle hb h63 w
  exact ⟨_, w', _, by simp only [execOp, ha.ev hx, ha.ev hy, Sem.run_bind, h1, Result.andThen, Sem.run_pure], hw.call h2, hk _⟩
theorem st_storeS {t : TypeId} {x y : Operand} {i k j n p : Nat} {a a' : α} {v : Value} (sz : (P.info? t).map (·.size) = some n) [he : Enc enc c] (hx : ev env x = some (.pointer (some ⟨s.b, p, none⟩))) (hy : ev env y = some v) [q : Owns L s enc c xs i] (hp' : p = s.o + k * c + j)
  (ha : xs[k]? = some a) (hv : v.cells.all (·.oneCell') = true) (hn : v.cells.size = n) (hj : j + n ≤ c) (he' : over (enc a) j v.cells = enc a') {L' : List Ent} [hu : Upd L i (own enc c s (xs.set k a')) L'] (hk : K undef (L')) :
  Stp P N w0 env L ⟨none, .store t x y, ty, ps, af, none⟩ K :=
 st_skip fun aa w haa hw => by
  subst hp' hn
  obtain ⟨w', h1, h2⟩ := mem_store (P := P) hw q ha hv hj he' hu
  refine ⟨w', _, ?_, h2, hk⟩
  simp only [execOp, haa.ev hx, haa.ev hy, Instr.storeAt, Instr.sureAddr, storeVar, Sem.run_bind, Sem.run_pure, Result.andThen, run_sizeOf' w sz]
  simp [h1]
theorem st_build0 {t e : TypeId} {by' : Nat} (enc : α → Array Value) [ht : SlT P t e c by'] [he : Enc enc c] (hk : ∀ b, K ((Sv.val ⟨false, b, 0, 0, 0, none⟩)) ((own enc c ⟨false, b, 0, 0, 0, none⟩ [] :: L))) :
  Stp P N w0 env L ⟨d, .buildSlice t 0 #[], ty, ps, af, none⟩ K :=
 st_run fun a w _ hw => by
  refine ⟨_, _, _, ?_, hw.call (mem_new (enc := enc) (c := c) (xs := []) (cs := #[]) (e := e) rfl 0 0 rfl (Nat.le_refl _) (Nat.zero_le _) (by simp) (by simp)), hk _⟩
  simp only [execOp, Sem.run_bind, List.map_toArray, List.map_nil, run_build0 ht w, Result.andThen, Sem.run_pure]; rfl
theorem st_storeSv {P : Program} {N : Fra} {w0 : World} {env : Env} {L : List Ent} {ty : TypeId} {ps : String} {af : Array Edge} {τ : Type} {t : TypeId} {x y : Operand} {i k p : Nat} {s : Sv} {xs : List (Sl τ)} {a : Sl τ} (a' : Sl τ)
  (sz : (P.info? t).map (·.size) = some 1) (hx : ev env x = some (.pointer (some ⟨s.b, p, none⟩))) (hy : ev env y = some a'.sv.val) [q : Owns L s (scells (τ := τ)) 1 xs i] (hp' : p = s.o + k * 1) (ha : xs[k]? = some a) {L' : List Ent} [hu : Upd L i (own scells 1 s (xs.set k a')) L'] (hk : K undef (L')) :
  Stp P N w0 env L ⟨none, .store t x y, ty, ps, af, none⟩ K :=
 st_storeS (j := 0) (a' := a') sz hx hy (q := q) hp' ha (by rw [Sv.cells_val]; simp [Sv.one]) (by rw [Sv.cells_val]; rfl) (by decide) (by rw [Sv.cells_val]; rfl) hk
end

section
variable {τ : Type} [dp : Deep τ] {enc : τ → Array Value} {c : Nat}
end
theorem sq_st {l : List Oper} {rest : List Oper} {o : Oper} (hg : o.guard = none) (hd : dstOk N o.dst = true) (h : Stp P N w0 env L o (fun v L' => Sq P N w0 l Q rest (putE env o.dst v) L')) : Sq P N w0 l Q (o :: rest) env L := fun a w ha hw => by
 unfold wpList
 rw [if_pos (wanted_none hg)]
 refine .inl ?_
 have h1 := h a w ha hw
 unfold Oper.wp
 generalize (execOp a.eval o).run P w = r at h1
 unfold upon at h1
 split at h1
 ·
  obtain ⟨L', h2, h3⟩ := h1; exact h3 _ _ (ha.put hd _) h2
 ·
  obtain ⟨L', h2, h3⟩ := h1; exact h3 _ _ (ha.put hd _) h2
 ·
  obtain ⟨rfl, hc⟩ := h1
  exact hc.mono fun e w'' ⟨v, he, L', h2, h3⟩ => by subst he; exact h3 _ _ (ha.put hd _) h2
 ·
  exact h1.elim
end

/-! The line of a region. -/
section
variable {P : Program} {N : Fra} {w0 : World} {env : Env} {L Lq : List Ent} {l : List Oper} {fs ord : List Nat} {mk : Nat → Mkr} {Q : Exit → Act → World → Prop} {k : Nat} {o : Oper}
def Ln (P : Program) (N : Fra) (w0 : World) (l : List Oper) (fs : List Nat) (mk : Nat → Mkr) (Q : Exit → Act → World → Prop) (ord : List Nat) (env : Env) (L Lq : List Ent) : Prop := ∀ a, Rep N env a → Lin P l fs mk Q w0 ord a L Lq
def Cert (P : Program) (N : Fra) (env : Env) (l : List Oper) (fs : List Nat) (mk : Nat → Mkr) (ord : List Nat) : Prop :=
 ∀ i ∈ ord, fs.contains (i + 2000) = true → ∃ oi, l[i]? = some oi ∧ oi.guard = none ∧ ∀ a, Rep N env a → Makes P oi a.eval (mk i)
theorem Cert.none (h : (ord.all fun i => !fs.contains (i + 2000)) = true) : Cert P N env l fs mk ord := fun i hi hf => by
 have := List.all_eq_true.1 h i hi
 rw [hf] at this; cases this
theorem Cert.one {i : Nat} {m : Mkr} (ho : l[i]? = some o) (hg : o.guard = Option.none) (hm : mk i = m) (h : ∀ a, Rep N env a → Makes P o a.eval m) (hr : Cert P N env l fs mk (ord.filter fun j => !(j == i))) : Cert P N env l fs mk ord := fun j hj hf => by
 by_cases e : j = i
 ·
  subst e
  exact ⟨o, ho, hg, by rw [hm]; exact h⟩
 ·
  exact hr j (List.mem_filter.2 ⟨hj, by simpa using e⟩) hf
theorem Cert.at (h : Cert P N env l fs mk ord) {a : Act} (ha : Rep N env a) : ∀ i ∈ ord, fs.contains (i + 2000) = true → ∃ oi, l[i]? = some oi ∧ oi.guard = Option.none ∧ Makes P oi a.eval (mk i) := fun i hi hf => by
 obtain ⟨oi, h1, h2, h3⟩ := h i hi hf
 exact ⟨oi, h1, h2, h3 a ha⟩
theorem ln_nil (h : Ex N w0 Q .normal env L) : Ln P N w0 l fs mk Q [] env L Lq := fun a ha w hw => h a w ha hw
theorem ln_quiet {v : Value} (ho : l[k]? = some o) (hf : fs.contains k = false) (hd : dstOk N o.dst = true) (h1 : ∀ a, Rep N env a → Region.wanted o (yielded l.toArray a.tmps) = true → quietR P o a (Mem w0 Lq) v) (h2 : ∀ a, Rep N env a → Region.wanted o (yielded l.toArray a.tmps) = false → v = undef)
  (hk : Ln P N w0 l fs mk Q ord (putE env o.dst v) L Lq) (hf2 : fs.contains (k + 1000) = false := by rfl) : Ln P N w0 l fs mk Q (k :: ord) env L Lq := fun a ha =>
 ⟨o, ho, by
  rw [if_neg (by rw [hf]; exact Bool.false_ne_true)]
  exact ⟨v, by rw [if_neg (by rw [hf2]; exact Bool.false_ne_true)]; exact h1 a ha, h2 a ha, hk _ (ha.put hd v)⟩⟩
theorem lt_y {v : Value} (ho : l[k]? = some o) (h : Yl P N w0 env L o v) (hk : Ln P N w0 l fs mk Q ord (putE env o.dst v) L Lq) (hg : o.guard = none := by rfl) (hd : dstOk N o.dst = true := by rfl) (hf : fs.contains k = false := by rfl) (hf2 : fs.contains (k + 1000) = true := by rfl) : Ln P N w0 l fs mk Q (k :: ord) env L Lq := fun a ha =>
 ⟨o, ho, by
  rw [if_neg (by rw [hf]; exact Bool.false_ne_true)]
  exact ⟨v, fun _ => by rw [if_pos hf2]; exact h a ha, (fun hw => by rw [wanted_none hg] at hw; cases hw), hk _ (ha.put hd v)⟩⟩
theorem lt_r {v : Value} (ho : l[k]? = some o) (h : Ry P N w0 env L o v) (hk : Ln P N w0 l fs mk Q ord (putE env o.dst v) L Lq) (hg : o.guard = none := by rfl) (hd : dstOk N o.dst = true := by rfl) (hf : fs.contains k = false := by rfl) (hf2 : fs.contains (k + 1000) = true := by rfl) : Ln P N w0 l fs mk Q (k :: ord) env L Lq := lt_y ho h.yl hk hg hd hf hf2
theorem ln_y {v : Value} (ho : l[k]? = some o) (h : Yl P N w0 env Lq o v) (hk : Ln P N w0 l fs mk Q ord (putE env o.dst v) L Lq) (hg : o.guard = none := by rfl) (hd : dstOk N o.dst = true := by rfl) (hf : fs.contains k = false := by rfl) (hf2 : fs.contains (k + 1000) = false := by rfl) : Ln P N w0 l fs mk Q (k :: ord) env L Lq :=
 ln_quiet (hf2 := hf2) ho hf hd (fun a ha _ => h a ha) (fun a ha hw => by rw [wanted_none hg] at hw; cases hw) hk
theorem ln_r {v : Value} (ho : l[k]? = some o) (h : Ry P N w0 env Lq o v) (hk : Ln P N w0 l fs mk Q ord (putE env o.dst v) L Lq) (hg : o.guard = none := by rfl) (hd : dstOk N o.dst = true := by rfl) (hf : fs.contains k = false := by rfl) (hf2 : fs.contains (k + 1000) = false := by rfl) : Ln P N w0 l fs mk Q (k :: ord) env L Lq := ln_y ho h.yl hk hg hd hf hf2
theorem ln_gf {v : Value} {j t : Nat} {g : Bool} (ho : l[k]? = some o) (hg : o.guard = some (j, false)) (hj : (l[j]?).bind (·.dst) = some t) (hv : look env t = some (.bool g)) (h : (!g) = true → Yl P N w0 env Lq o v)
  (hk : Ln P N w0 l fs mk Q ord (putE env o.dst (if (!g) = true then v else undef)) L Lq) (hd : dstOk N o.dst = true := by rfl) (hf : fs.contains k = false := by rfl) (hf2 : fs.contains (k + 1000) = false := by rfl) : Ln P N w0 l fs mk Q (k :: ord) env L Lq :=
 ln_quiet (hf2 := hf2) ho hf hd (fun a ha hw => by
  rw [wanted_some ha hg hj hv] at hw
  cases g
  ·
   exact h rfl a ha
  ·
   cases hw) (fun a ha hw => by
  rw [wanted_some ha hg hj hv] at hw
  cases g
  ·
   cases hw
  ·
   rfl) hk
theorem ln_st' (ho : l[k]? = some o) (h : Stp P N w0 env L o fun v L' => ∃ Lq', (∀ w, Mem w0 L' w → Mem w0 Lq' w) ∧ (∀ w, Mem w0 Lq' w → Mem w0 Lq w) ∧ Ln P N w0 l fs mk Q ord (putE env o.dst v) L' Lq') (hg : o.guard = none := by rfl) (hd : dstOk N o.dst = true := by rfl) (hf : fs.contains k = true := by rfl) (hf3 : fs.contains (k + 2000) = false := by rfl) (hf4 : fs.contains (k + 4000) = false := by rfl) (hf5 : fs.contains (k + 5000) = false := by rfl) (hC : Cert P N env l fs mk ord := by exact Cert.none rfl) : Ln P N w0 l fs mk Q (k :: ord) env L Lq := fun a ha =>
 ⟨o, ho, by
  rw [if_pos hf, if_neg (by rw [hf3]; exact Bool.false_ne_true)]
  exact ⟨hC.at ha, wanted_none hg, fun w hw => upon_mono (fun v w' ⟨L', h1, Lq', h2, h3, h4⟩ => ⟨L', Lq', h1, h2, h3, (fun h => by rw [hf5] at h; cases h), h4 _ (ha.put hd v)⟩) (h a w ha hw), fun h => by rw [hf4] at h; cases h⟩⟩
theorem ln_stA (ho : l[k]? = some o) (h : Stp P N w0 env L o fun v L' => (∀ w, Mem w0 L' w → Mem w0 Lq w) ∧ (∀ w, Mem w0 L' w → Mem w0 L w) ∧ Ln P N w0 l fs mk Q ord (putE env o.dst v) L' Lq) (hg : o.guard = none := by rfl) (hd : dstOk N o.dst = true := by rfl) (hf : fs.contains k = true := by rfl) (hf3 : fs.contains (k + 2000) = false := by rfl) (hf4 : fs.contains (k + 4000) = false := by rfl) (hC : Cert P N env l fs mk ord := by exact Cert.none rfl) : Ln P N w0 l fs mk Q (k :: ord) env L Lq := fun a ha =>
 ⟨o, ho, by
  rw [if_pos hf, if_neg (by rw [hf3]; exact Bool.false_ne_true)]
  exact ⟨hC.at ha, wanted_none hg, fun w hw => upon_mono (fun v w' ⟨L', h1, h2, h3, h4⟩ => ⟨L', Lq, h1, h2, fun _ h => h, (fun _ => h3), h4 _ (ha.put hd v)⟩) (h a w ha hw), fun h => by rw [hf4] at h; cases h⟩⟩
theorem ln_stF (K : Value → List Ent → Prop) (ho : l[k]? = some o) (h : Stp P N w0 env L o K) (hF : ∀ e, Stp P N w0 env (e :: L) o fun v L' => ∃ L1, (∀ w, Mem w0 L' w → Mem w0 (e :: L1) w) ∧ K v L1) (hk : ∀ v L', K v L' → (∀ w, Mem w0 L' w → Mem w0 Lq w) ∧ Ln P N w0 l fs mk Q ord (putE env o.dst v) L' Lq) (hC : Cert P N env l fs mk ord) (hg : o.guard = none := by rfl) (hd : dstOk N o.dst = true := by rfl) (hf : fs.contains k = true := by rfl) (hf3 : fs.contains (k + 2000) = false := by rfl) (hf5 : fs.contains (k + 5000) = false := by rfl) : Ln P N w0 l fs mk Q (k :: ord) env L Lq := fun a ha =>
 ⟨o, ho, by
  rw [if_pos hf, if_neg (by rw [hf3]; exact Bool.false_ne_true)]
  exact ⟨hC.at ha, wanted_none hg, fun w hw => upon_mono (fun v w' ⟨L', h1, h2⟩ => ⟨L', Lq, h1, (hk v L' h2).1, fun _ h => h, (fun h => by rw [hf5] at h; cases h), (hk v L' h2).2 _ (ha.put hd v)⟩) (h a w ha hw), fun _ e w hw => upon_mono (fun v w' ⟨L', h1, L1, h2, h3⟩ => ⟨L1, Lq, h2 _ h1, (hk v L1 h3).1, fun _ h => h, (fun h => by rw [hf5] at h; cases h), (hk v L1 h3).2 _ (ha.put hd v)⟩) (hF e a w ha hw)⟩⟩
theorem ln_callF {X : Type} {val : X → Value} {L' : X → List Ent} {L2 : Ent → X → List Ent} {pr : X → Prop} {pre : Prop} {f : FuncId} {xs : List Operand} {ts : Array TypeId} {vs : List Value} {d : Option Tmp} {ty : TypeId} {ps : String} {af : Array Edge} [hf : IsFn P f] (ho : l[k]? = some ⟨d, .call { callee := .value (.func f), args := xs.toArray, argTypes := ts }, ty, ps, af, none⟩) (hx : evl env xs = some vs)
  [hc : FnC P f w0 L vs X val L' pr pre] [hcF : ∀ e, FnC P f w0 (e :: L) vs X val (L2 e) pr pre] (hp : pre) (hP : ∀ e x w, Mem w0 (L2 e x) w → Mem w0 (e :: L' x) w) (hC : Cert P N env l fs mk ord) (hk : ∀ x, pr x → (∀ w, Mem w0 (L' x) w → Mem w0 Lq w) ∧ Ln P N w0 l fs mk Q ord (putE env d (val x)) (L' x) Lq)
  (hd : dstOk N d = true := by rfl) (hf1 : fs.contains k = true := by rfl) (hf3 : fs.contains (k + 2000) = false := by rfl) (hf5 : fs.contains (k + 5000) = false := by rfl) : Ln P N w0 l fs mk Q (k :: ord) env L Lq :=
 ln_stF (fun v L1 => ∃ x, v = val x ∧ L1 = L' x ∧ pr x) ho (st_callC hx hp fun x hpx => ⟨x, rfl, rfl, hpx⟩) (fun e => st_mono (st_callC (K := fun v L1 => ∃ x, v = val x ∧ L1 = L2 e x ∧ pr x) hx hp fun x hpx => ⟨x, rfl, rfl, hpx⟩) fun v L1 ⟨x, h1, h2, h3⟩ => ⟨L1, fun _ h => h, L' x, fun w hw => hP e x w (by rw [← h2]; exact hw), x, h1, rfl, h3⟩)
  (fun v L1 ⟨x, h1, h2, h3⟩ => by subst h1; subst h2; exact hk x h3) hC rfl hd hf1 hf3 hf5
theorem ln_mk {m : Mkr} (ho : l[k]? = some o) (hm : mk k = m) (h : ∀ a, Rep N env a → Makes P o a.eval m) (hC : Cert P N env l fs mk ord) (hk : ∀ x : m.X, Ln P N w0 l fs mk Q ord (putE env o.dst (m.v x)) (m.e x :: L) Lq) (hg : o.guard = none := by rfl) (hd : dstOk N o.dst = true := by rfl) (hf : fs.contains k = true := by rfl) (hf2 : fs.contains (k + 2000) = true := by rfl) : Ln P N w0 l fs mk Q (k :: ord) env L Lq := fun a ha => by
 subst hm
 refine ⟨o, ho, ?_⟩
 rw [if_pos hf, if_pos hf2]
 exact ⟨hC.at ha, hg, h a ha, fun x => hk x _ (ha.put hd _)⟩
theorem ln_st (ho : l[k]? = some o) (h : Stp P N w0 env L o fun v L' => (∀ w, Mem w0 L' w → Mem w0 Lq w) ∧ Ln P N w0 l fs mk Q ord (putE env o.dst v) L' Lq) (hg : o.guard = none := by rfl) (hd : dstOk N o.dst = true := by rfl) (hf : fs.contains k = true := by rfl) (hf3 : fs.contains (k + 2000) = false := by rfl) (hf4 : fs.contains (k + 4000) = false := by rfl) (hf5 : fs.contains (k + 5000) = false := by rfl) (hC : Cert P N env l fs mk ord := by exact Cert.none rfl) : Ln P N w0 l fs mk Q (k :: ord) env L Lq :=
 ln_st' (hf3 := hf3) (hf4 := hf4) (hf5 := hf5) (hC := hC) ho (st_mono h fun v L' ⟨h1, h2⟩ => ⟨L', fun _ h => h, Lq, h1, fun _ h => h, h2⟩) hg hd hf
def mkL : List (Nat × Mkr) → Nat → Mkr
 | [], _ => ⟨Unit, fun _ => undef, fun _ => .emp⟩
 | (i, m) :: r, k => match Nat.beq i k with
  | true => m
  | false => mkL r k
@[reducible] def alM (P : Program) (t : TypeId) {z : Value} [_hz : ZeroT P t z] : Mkr := ⟨Nat, fun b => .pointer (some ⟨b, 0, none⟩), fun b => blk b z.cells t⟩
theorem makes_al {t : TypeId} {z : Value} [hz : ZeroT P t z] {d : Option Tmp} {ty : TypeId} {ps : String} {af : Array Edge} {gd : Option (Nat × Bool)} : ∀ a, Rep N env a → Makes P ⟨d, .alloc t, ty, ps, af, gd⟩ a.eval (alM P t) := fun a _ w0 w L hw => by
 refine ⟨w.heap.size, w.alloc (.cells z.cells t), ?_, hw.alloc z.cells t⟩
 simp only [execOp, Instr.alloc, newVar, newRow, Sem.run_bind, run_zeroValue' w hz, newObj, Sem.run, Result.andThen, Sem.run_pure]; rfl
@[reducible] def bsM {α : Type} (enc : α → Array Value) (c n : Nat) (xs : List α) : Mkr := ⟨Nat, fun b => Sv.val ⟨false, b, 0, n, n, none⟩, fun b => own enc c ⟨false, b, 0, n, n, none⟩ xs⟩
theorem makes_bs {α : Type} {enc : α → Array Value} {c : Nat} {t e : TypeId} {by' n : Nat} {d : Option Tmp} {ty : TypeId} {ps : String} {af : Array Edge} {gd : Option (Nat × Bool)} [ht : SlT P t e c by'] [he : Enc enc c] {ops : List (Nat × Operand)} {vals : List Value} (xs : List α) (hx : evp env ops = some (idx vals 0)) (hv : vals.map Value.cells = xs.map enc) (hn : xs.length = n) (hc : 0 < n * c) (h24 : n * c ≤ 16777216) :
  ∀ a, Rep N env a → Makes P ⟨d, .buildSlice t n ops.toArray, ty, ps, af, gd⟩ a.eval (bsM enc c n xs) := fun a ha w0 w L hw => by
 subst hn
 have e1 : (ops.toArray.map fun (p : Nat × Operand) => match p with | (i, x) => (i, a.eval x)) = (idx vals 0).toArray := by
  rw [← ha.evp hx]; simp
 refine ⟨w.heap.size, _, ?_, hw.call (mem_new (enc := enc) (c := c) (xs := xs) (cs := (flatR enc xs).toArray) (e := e) rfl xs.length xs.length rfl (Nat.le_refl _) (len24 hc h24) (by simp [flatR_length]) fun i x hx j hj => by rw [← flatR_get (enc := enc) xs i x hx j hj]; simp)⟩
 simp only [execOp, e1, Sem.run_bind, run_buildSlice ht hv hc h24 w, Result.andThen, Sem.run_pure]; rfl
theorem cw_linE {id : Nat} [Tame Q] (fs : List Nat) (A : List (List Nat)) (ord : List Nat) (Lq : List Ent) (mk : List (Nat × Mkr)) (hck : (fs.all fun j => decide (j < 2000) || decide (4000 ≤ j) || fs.contains (j - 2000)) = true) (hsub : ∀ w, Mem w0 L w → Mem w0 Lq w) (hm : P.follows .mixedOrders = true) (hB : linB2 l fs A ord = true) (h : Ln P N w0 l fs (mkL mk) Q ord env L Lq) (hlt : l.length ≤ 1000 := by decide) (hnd : noDefer l = true := by kernel_rfl) : Cw P N w0 Q (.region id l.toArray true) env L := fun a _ ha hw => by
 refine wp_region_lin2 A ord hnd hm hB hw.drew' hsub (fun k hkl hk => ?_) (h a ha)
 cases h2 : fs.contains (k + 2000) with
 | false => rfl
 | true =>
  have := List.all_eq_true.1 hck (k + 2000) (by simpa using h2)
  rw [Bool.or_eq_true, Bool.or_eq_true, decide_eq_true_eq, decide_eq_true_eq] at this
  rcases this with (h | h) | h
  ·
   omega
  ·
   omega
  ·
   rw [Nat.add_sub_cancel, hk] at h; cases h
theorem cw_lin {id : Nat} [Tame Q] (fs : List Nat) (A : List (List Nat)) (ord : List Nat) (Lq : List Ent) (hsub : ∀ w, Mem w0 L w → Mem w0 Lq w) (hm : P.follows .mixedOrders = true) (hB : linB l fs A ord = true) (h : Ln P N w0 l fs (mkL []) Q ord env L Lq) (hnd : noDefer l = true := by kernel_rfl) : Cw P N w0 Q (.region id l.toArray true) env L := fun a _ ha hw =>
 wp_region_lin A ord hnd hm hB hw.drew' hsub (h a ha)
end
end Go.Eng

/- Rows opened to their cells: moved within a block, made longer in their room or anew. -/
namespace Go.Eng
open Go.RowKit

section
variable {α : Type} {enc : α → Array Value} {c : Nat} {s : Sv} {xs : List α}

theorem Sv.sub_0 {hi : Nat} : (s.sub c 0 hi).o = s.o := by simp only [Sv.sub]; split <;> simp
end

section
variable {P : Program} {N : Fra} {w0 : World} {env : Env} {L : List Ent} {Q : Exit → Act → World → Prop} {l rest : List Oper} {d : Option Tmp} {ty : TypeId} {ps : String} {af : Array Edge} {gd : Option (Nat × Bool)} {K : Value → List Ent → Prop}
variable {α : Type} {enc : α → Array Value} {c : Nat} {s : Sv} {xs : List α}
theorem cw_owned {code : Code} {i : Nat} (q : Owns L s enc c xs i) (hn : 0 < xs.length) (h : s.nil = false → s.sp = none → s.Ok → s.len = xs.length → Cw P N w0 Q code env L) : Cw P N w0 Q code env L := fun a w ha hw => by
 obtain ⟨r, hrow⟩ := hw.get q.h
 have hnil := r.some hn
 exact h hnil (hrow hnil).1 r.ok r.len a w ha hw
def Sv.top (s : Sv) (m : Nat) : Sv := ⟨s.nil, s.b, s.o, s.len, m, s.sp⟩
theorem ry_subH3 {t e : TypeId} {x lo hi mx : Operand} {l h m : Nat} {k k' k'' : IntKind} {il ih im : Int} [ht : SliceT P t e c] (hx : ev env x = some s.val) [q : Hd w0 L s enc c xs] (hl : ev env lo = some (.int k il)) (hh : ev env hi = some (.int k' ih)) (hm : ev env mx = some (.int k'' im)) (el : il = (l : Int)) (eh : ih = (h : Int)) (em : im = (m : Int)) (h1 : l ≤ h) (h2 : h ≤ m) (h3 : m ≤ xs.length) :
  Ry P N w0 env L ⟨d, .slice t x (some lo) (some hi) (some mx), ty, ps, af, gd⟩ ((s.top m).sub c l h).val := fun a w ha hw => by
 subst el eh em
 have r := q.h w hw
 have hs := r.ok
 have hlen := r.len
 have hle := hs.le
 have ee := elem_of ht.und
 have hu : P.underlying t = some (.slice (P.elem t)) := by rw [ee]; exact ht.und
 obtain ⟨ad, len, cap, ev'⟩ := s.ex
 have e3 : len = s.len ∧ cap = s.cap ∧ sliced ad l h m c = ((s.top m).sub c l h).val := by
  cases hn : s.nil with
  | true =>
   rw [Sv.val_nil hn] at ev'
   obtain ⟨rfl, rfl, rfl⟩ := by simpa using ev'
   have := hs.nil hn
   have e2 : ((s.top m).sub c l h).nil = true := hn
   rw [Sv.val_nil e2]
   have : l = 0 := by omega
   have : h = 0 := by omega
   have : m = 0 := by omega
   subst l h m
   exact ⟨by omega, by omega, by simp [sliced]⟩
  | false =>
   rw [Sv.val_some hn] at ev'
   obtain ⟨rfl, rfl, rfl⟩ := by simpa using ev'
   have e2 : ((s.top m).sub c l h).nil = false := hn
   rw [Sv.val_some e2]
   refine ⟨rfl, rfl, ?_⟩
   simp only [sliced, Sv.sub, Sv.top]
   by_cases hc : m = l
   ·
    simp [hc]
   ·
    have hsp := hs.sp (by omega)
    simp [hc, hsp, Addr.add_none]
 obtain ⟨e1, e2, e3⟩ := e3
 have hr := run_slice_lhm (P := P) (w := w) t ad len cap hu k k' k'' (l : Int) (h : Int) (m : Int) (by omega) (by omega) (by omega) (by omega)
 rw [ee, run_sizeOf' w ht.size] at hr
 simp only [Result.andThen, Int.toNat_natCast, e3] at hr
 simp only [execOp, ha.ev hx, ha.ev hl, ha.ev hh, ha.ev hm, ev', Option.map_some, run_sliceAt_slice (h := hu), hr, Sem.run_bind, Result.andThen, Sem.run_pure]
end
end Go.Eng

/- The sum of bytes: one byte changed is another sum. No program in sight. -/
namespace Go.Kb

def crcP : Nat := 3988292384
def crcT (n : Nat) : Nat := (n / 2) ^^^ (if n % 2 = 1 then crcP else 0)
theorem crcT_lt {n : Nat} (h : n < 2 ^ 32) : crcT n < 2 ^ 32 := by
 refine Nat.xor_lt_two_pow (by omega) ?_
 split
 ·
  decide
 ·
  decide
def crcN (n : Nat) : Nat → Nat
 | 0 => n
 | k + 1 => crcT (crcN n k)
theorem crcN_lt {n : Nat} (h : n < 2 ^ 32) : ∀ k, crcN n k < 2 ^ 32
 | 0 => h
 | k + 1 => crcT_lt (crcN_lt h k)
def crcB (n : Nat) (b : UInt8) : Nat := crcN (n ^^^ b.toNat) 8
theorem crcB_lt {n : Nat} {b : UInt8} (h : n < 2 ^ 32) : crcB n b < 2 ^ 32 := crcN_lt (Nat.xor_lt_two_pow h (by have := b.toNat_lt; omega)) 8
def crcS (n : Nat) (l : List UInt8) : Nat := l.foldl crcB n
theorem crcS_lt {n : Nat} (h : n < 2 ^ 32) : ∀ l, crcS n l < 2 ^ 32
 | [] => h
 | b :: l => crcS_lt (crcB_lt h) l
theorem crcS_snoc {n : Nat} {l : List UInt8} {i : Nat} {b : UInt8} (h : l[i]? = some b) : crcS n (l.take (i + 1)) = crcB (crcS n (l.take i)) b := by
 rw [List.take_add_one, h, crcS, crcS, List.foldl_append]; rfl
def crc (l : List UInt8) : Nat := 4294967295 - crcS 4294967295 l
theorem crc_lt (l : List UInt8) : crc l < 2 ^ 32 := by unfold crc; omega
end Go.Kb

/- A row told shorter; zero values behind the nil slice; a slice whose elements are known one by one. -/
namespace Go.Eng
open Go.RowKit
section
variable {α : Type} {enc : α → Array Value} {c : Nat} {s : Sv} {xs : List α}
theorem Mem.ownTake {w0 w : World} {L : List Ent} {i k : Nat} (hw : Mem w0 L w) (hi : L[i]? = some (own enc c s xs)) (hk : k ≤ xs.length) : Mem w0 (L.set i (own enc c (s.sub c 0 k) (xs.take k))) w := by
 obtain ⟨r, hrow⟩ := hw.get hi
 have r2 := r.sub (lo := 0) (hi := k) (Nat.zero_le _) hk
 rw [List.drop_zero, Nat.sub_zero] at r2
 refine hw.change hi (fun k hk => hk) (fun _ _ => rfl) rfl ⟨rfl, rfl, rfl⟩ ⟨r2, fun hn => ?_⟩
 obtain ⟨h1, cs, T, fz, h2, h3, h4, h5⟩ := hrow hn
 refine ⟨h1, cs, T, fz, h2, ?_, h4, h5⟩
 rw [Sv.sub_0]; exact h3
end
section
variable {P : Program} {N : Fra} {w0 : World} {env : Env} {L : List Ent} {Q : Exit → Act → World → Prop} {l rest : List Oper} {d : Option Tmp} {ty : TypeId} {ps : String} {af : Array Edge} {gd : Option (Nat × Bool)}
variable {α : Type} {enc : α → Array Value} {c : Nat} {xs : List α}
theorem sq_appendN {x y : Operand} {tx tys e : TypeId} {by' k : Nat} {z : Value} {kn kq : IntKind} {iy : Int} (x0 : α) (hx : ev env x = some (.slice none 0 0)) (hy : ev env y = some (.int kq iy)) (hk0 : iy = (k : Int)) (h0 : 0 < k)
  [ht : SlT P tx e c by'] [he : Enc enc c] (hc : 0 < c) [hz : ZeroT P e z] (hz0 : enc x0 = z.cells) (htn : P.underlying tys = some (.int kn)) (hb : k * by' ≤ 140737488355328) (h63 : k ≤ 140737488355328)
  (hk : ∀ b C : Nat, k ≤ C → Sq P N w0 l Q rest (putE env d (Sv.val ⟨false, b, 0, k, C, none⟩)) (own enc c ⟨false, b, 0, k, C, none⟩ (List.replicate k x0) :: L)) (hd : dstOk N d = true := by rfl) :
  Sq P N w0 l Q (⟨d, .call { callee := .builtin .append, args := #[x, y], argTypes := #[tx, tys] }, ty, ps, af, none⟩ :: rest) env L :=
 sq_run rfl hd fun aa w ha hw => by
  subst hk0
  obtain ⟨i', z', hi1, hi2, hi3, hi4, hzc⟩ := ht.info
  obtain rfl : z' = z := by
   have := hz.zero
   rw [hi1, Option.map_some, hi2] at this; exact Option.some.inj (Option.some.inj this)
  subst hi3 hi4
  have hrun := Lib.run_append_nil_zeros (P := P) w tx tys ty e i' z' kq kn ht.und htn hi1 hi2 k h0 hc (by omega) (by omega)
  have hcge := grownCap_ge w k 0 e
  generalize grownCap w k 0 e = C at hrun hcge
  have hZ1 := size_zeroCells z'.cells k
  have hZ2 := size_zeroCells z'.cells (C - k)
  have hgetZ : ∀ m i j, i < m → j < i'.size → (Builtin.zeroCells z'.cells m)[i * i'.size + j]? = z'.cells[j]? := fun m i j hi hj => by
   have hlt : i * i'.size + j < m * z'.cells.size := by
    rw [hzc]
    have : (i + 1) * i'.size ≤ m * i'.size := Nat.mul_le_mul_right _ hi
    rw [Nat.add_mul] at this; omega
   have e1 : (i * i'.size + j) % z'.cells.size = j := by rw [hzc, Nat.mul_comm, Nat.mul_add_mod]; exact Nat.mod_eq_of_lt hj
   have hz3 : j < z'.cells.size := by omega
   simp [Builtin.zeroCells, hlt, e1, hz3]
  refine ⟨_, _, _, ?_, hw.drew.call (mem_new (enc := enc) (c := i'.size) (xs := List.replicate k x0) (cs := Builtin.zeroCells z'.cells k ++ Builtin.zeroCells z'.cells (C - k)) (e := e) rfl k C (by simp) hcge h63 ?_ fun i x hx j hj => ?_), hk _ C hcge⟩
  ·
   simp [execOp, ha.ev hx, ha.ev hy, resolve, invoke, builtin, hrun, Result.andThen, Sv.val]
  ·
   rw [Array.size_append, hZ1, hZ2, hzc, ← Nat.add_mul]; exact Nat.mul_le_mul_right _ (by omega)
  ·
   have hi : i < k := by
    have := (List.getElem?_eq_some_iff.1 hx).1
    simpa using this
   obtain rfl : x0 = x := by rw [List.getElem?_replicate, if_pos hi] at hx; exact Option.some.inj hx
   rw [hz0, ← hgetZ k i j hi hj, Array.getElem?_append_left]
   rw [hZ1, hzc]
   have : (i + 1) * i'.size ≤ k * i'.size := Nat.mul_le_mul_right _ hi
   rw [Nat.add_mul] at this; omega
theorem ry_capN {t e : TypeId} {x : Operand} {m : Nat} [ht : SliceT P t e m] (hx : ev env x = some (.slice none 0 0)) :
  Ry P N w0 env L ⟨d, .call { callee := .builtin .cap, args := #[x], argTypes := #[t] }, ty, ps, af, gd⟩ (.int .i64 (0 : Nat)) := fun a w ha _ => by
 have hu : P.underlying t = some (.slice (P.elem t)) := by rw [elem_of ht.und]; exact ht.und
 have := run_cap_slice (P := P) (w := w) t ty none 0 0 hu
 simp [execOp, ha.ev hx, resolve, invoke, builtin, this, Result.andThen, goInt]
class AllG (w0 : World) (L : List Ent) {τ : Type} [Deep τ] (xs : List τ) : Prop where
 h : ∀ w, Mem w0 L w → ∀ x ∈ xs, Deep.good (hp w) x
instance AllG.nil {τ : Type} [Deep τ] : AllG w0 L ([] : List τ) := ⟨fun _ _ _ h => by cases h⟩
instance AllG.cons {τ : Type} [Deep τ] {x : τ} {xs : List τ} [a : HdD w0 L x] [b : AllG w0 L xs] : AllG w0 L (x :: xs) := ⟨fun w hw y hy => by
 rcases List.mem_cons.1 hy with rfl | hy
 ·
  exact a.h w hw
 ·
  exact b.h w hw y hy⟩
instance (priority := low) HdD.flat {τ : Type} [Deep τ] [Plain τ] {enc : τ → Array Value} {c : Nat} [FlatT τ enc c] {s : Sv} {xs : List τ} [q : HdE w0 L enc c s xs] : HdD w0 L (⟨s, xs⟩ : Sl τ) := ⟨fun w hw => by
 have hl := q.h w hw
 have e1 : Deep.cells (τ := τ) = enc := funext (FlatT.h (c := c))
 have e2 : Deep.c τ = c := FlatT.hc (enc := enc)
 refine ⟨?_, fun x _ => Deep.good_of _ x (by rw [Plain.h x]; exact trivial)⟩
 subst e1 e2
 exact hl⟩
instance (priority := low) HdD.rows {τ : Type} [Deep τ] {enc : τ → Array Value} {c : Nat} [FlatT τ enc c] {s : Sv} {xs : List τ} [q : HdE w0 L enc c s xs] [g : AllG w0 L xs] : HdD w0 L (⟨s, xs⟩ : Sl τ) := ⟨fun w hw => by
 have hl := q.h w hw
 have e1 : Deep.cells (τ := τ) = enc := funext (FlatT.h (c := c))
 have e2 : Deep.c τ = c := FlatT.hc (enc := enc)
 refine ⟨?_, g.h w hw⟩
 subst e1 e2
 exact hl⟩
theorem sq_nameD {τ : Type} [Deep τ] {s : Sv} {xs : List τ} [g : HdD w0 L (⟨s, xs⟩ : Sl τ)] (h : ∀ a : Sl τ, a = ⟨s, xs⟩ → HdD w0 L a → Sq P N w0 l Q rest (putE env d a.sv.val) L) : Sq P N w0 l Q rest (putE env d s.val) L := h _ rfl g
def flatB (l : List (Sl UInt8)) : List UInt8 := (l.map Sl.xs).flatten
theorem flatB_snoc {l : List (Sl UInt8)} {i : Nat} {x : Sl UInt8} (h : l[i]? = some x) : flatB (l.take (i + 1)) = flatB (l.take i) ++ x.xs := by
 rw [flatB, List.take_add_one, h]; simp [flatB]
theorem flatB_le (l : List (Sl UInt8)) (i : Nat) : (flatB (l.take i)).length ≤ (flatB l).length := by
 have e : flatB l = flatB (l.take i) ++ flatB (l.drop i) := by
  unfold flatB
  rw [← List.flatten_append, ← List.map_append, List.take_append_drop]
 rw [e, List.length_append]; omega
end
def sealed (l : List UInt8) : List UInt8 := l ++ be (Kb.crc l) 4
def openE (l : List UInt8) : Int := if l.length < 4 then 3 else if Kb.crc (l.take (l.length - 4)) = de (l.drop (l.length - 4)) then 0 else 4
/-! Numbers as bytes, and back. -/
theorem de_foldl (l : List UInt8) : ∀ n, l.foldl (fun a b => a * 256 + b.toNat) n = n * 256 ^ l.length + de l := by
 induction l with
 | nil => intro n; simp [de]
 | cons x l ih =>
  intro n
  rw [List.foldl_cons, ih, show de (x :: l) = l.foldl (fun a b => a * 256 + b.toNat) (0 * 256 + x.toNat) from rfl, ih, List.length_cons, Nat.pow_succ]
  simp only [Nat.zero_mul, Nat.zero_add, Nat.add_mul]
  rw [Nat.mul_assoc n, Nat.mul_comm 256, Nat.add_assoc]
theorem de_cons (x : UInt8) (l : List UInt8) : de (x :: l) = x.toNat * 256 ^ l.length + de l := by
 rw [show de (x :: l) = l.foldl (fun a b => a * 256 + b.toNat) (0 * 256 + x.toNat) from rfl, de_foldl]; simp
theorem de_all (l : List UInt8) : de l < 256 ^ l.length := by
 have := de_lt l l.length (Nat.le_refl _)
 rwa [List.take_length] at this
theorem be_add (m n : Nat) : ∀ k, be (m * 256 ^ k + n) k = be n k
 | 0 => rfl
 | k + 1 => by
  have e : m * 256 ^ (k + 1) + n = (m * 256) * 256 ^ k + n := by rw [Nat.pow_succ, Nat.mul_assoc, Nat.mul_comm 256]
  rw [be, be, e, be_add (m * 256) n k, Nat.add_comm, Nat.add_mul_div_right _ _ (Nat.pow_pos (by decide))]
  congr 1
  apply UInt8.toNat_inj.1
  rw [b8_toNat, b8_toNat]; omega
theorem be_de : ∀ l : List UInt8, be (de l) l.length = l
 | [] => rfl
 | x :: l => by
  have h := de_all l
  rw [de_cons, List.length_cons, be, be_add, be_de l, Nat.add_comm, Nat.add_mul_div_right _ _ (Nat.pow_pos (by decide)), Nat.div_eq_of_lt h, Nat.zero_add, b8_of]
theorem de_be (n : Nat) : ∀ k, de (be n k) = n % 256 ^ k
 | 0 => by simp [be, de, Nat.mod_one]
 | k + 1 => by
  rw [be, de_cons, be_length, de_be n k, b8_toNat, Nat.pow_succ, Nat.mod_mul, Nat.mul_comm, Nat.add_comm]
theorem open_iff {l : List UInt8} (h : ¬ l.length < 4) : sealed (l.take (l.length - 4)) = l ↔ Kb.crc (l.take (l.length - 4)) = de (l.drop (l.length - 4)) := by
 have hd : (l.drop (l.length - 4)).length = 4 := by simp; omega
 have e : l = l.take (l.length - 4) ++ l.drop (l.length - 4) := (List.take_append_drop _ _).symm
 constructor
 ·
  intro h1
  have h2 : be (Kb.crc (l.take (l.length - 4))) 4 = l.drop (l.length - 4) := by
   have h3 : l.take (l.length - 4) ++ be (Kb.crc (l.take (l.length - 4))) 4 = l.take (l.length - 4) ++ l.drop (l.length - 4) := by rw [← e]; exact h1
   exact List.append_cancel_left h3
  rw [← h2, de_be, Nat.mod_eq_of_lt (Nat.lt_of_lt_of_le (Kb.crc_lt _) (by decide))]
 ·
  intro h1
  have h2 := be_de (l.drop (l.length - 4))
  rw [hd, ← h1] at h2
  rw [sealed, h2, ← e]
def openS (b : Sv) (l : List UInt8) : Sv := if openE l = 0 then b.sub 1 0 (l.length - 4) else Sv.none
end Go.Eng

/- A slice that is either one that the call was given, or one of its own. -/
namespace Go.Eng
open Go.RowKit
section
variable {w0 : World} {L : List Ent} {α : Type} {enc : α → Array Value} {c : Nat} {xs ys : List α} {s t : Sv} {g : Bool}
end
section
variable {P : Program} {N : Fra} {w0 : World} {env : Env} {L : List Ent} {l : List Oper} {Q : Exit → Act → World → Prop} {rest : List Oper} {d : Option Tmp} {ty : TypeId} {ps : String} {af : Array Edge}
end
/-! Slices of slices whose elements are others'. -/
section
variable {w0 : World} {L : List Ent} {τ : Type} [Deep τ]
end
section
variable {w0 : World} {L : List Ent} {τ : Type} [Deep τ]
end
end Go.Eng

/- Values that are no more written: what they reach, as one entry. -/
namespace Go.Eng
open Go.RowKit

class Rea (τ : Type) [d : Deep τ] where
 reach : τ → Nat → Prop
 congr : ∀ (h h' : Nat → Option Obj) (x : τ), (∀ k, reach x k → h' k = h k) → d.good h x → d.good h' x
theorem Lies.congr {α : Type} {enc : α → Array Value} {c : Nat} {h h' : Nat → Option Obj} {s : Sv} {xs : List α} (e : xs ≠ [] → h' s.b = h s.b) (r : Lies enc c h s xs) : Lies enc c h' s xs :=
 ⟨r.ok, r.len, fun i x hi j hj => by
  have hne : xs ≠ [] := fun he => by rw [he] at hi; simp at hi
  rw [← r.row i x hi j hj]; unfold cellH; rw [e hne]⟩
@[reducible] def Rea.flat {τ : Type} [d : Deep τ] (hg : ∀ h x, d.good h x) : Rea τ := ⟨fun _ _ => False, fun _ h' x _ _ => hg h' x⟩
instance Rea.slice {τ : Type} [d : Deep τ] [r : Rea τ] : Rea (Sl τ) where
 reach a k := (a.xs ≠ [] ∧ k = a.sv.b) ∨ ∃ x ∈ a.xs, r.reach x k
 congr h h' a e g := ⟨g.1.congr fun hne => e _ (.inl ⟨hne, rfl⟩), fun x hx => r.congr h h' x (fun k hk => e k (.inr ⟨x, hx, hk⟩)) (g.2 x hx)⟩
instance : Rea UInt8 := Rea.flat fun _ _ => trivial
def fz {τ : Type} [d : Deep τ] [r : Rea τ] (x : τ) : Ent := ⟨r.reach x, fun h => d.good h x, fun h h' e s => r.congr h h' x e s⟩
section
variable {w0 : World} {L : List Ent} {τ : Type} [d : Deep τ] [r : Rea τ]
instance (priority := high) HdD.frozen {a : τ} {i : Nat} [q : At L (fz a) i] : HdD w0 L a := ⟨fun _ hw => hw.get q.h⟩
theorem Mem.freeze {w : World} {es : List Ent} (x : τ) (hg : d.good (hp w) x) (hr : ∀ k, r.reach x k → ∃ e ∈ es, e.fp k) (h : Mem w0 (es ++ L) w) : Mem w0 (fz x :: L) w := by
 have hd := List.pairwise_append.1 h.dis
 refine ⟨h.below, fun e he => ?_, fun e he k hk => ?_, List.pairwise_cons.2 ⟨fun y hy k hk hk' => ?_, hd.2.1⟩⟩
 ·
  rcases List.mem_cons.1 he with rfl | he
  ·
   exact hg
  ·
   exact h.sat e (List.mem_append.2 (.inr he))
 ·
  rcases List.mem_cons.1 he with rfl | he
  ·
   obtain ⟨e', he', hk'⟩ := hr k hk
   exact h.dom e' (List.mem_append.2 (.inl he')) k hk'
  ·
   exact h.dom e (List.mem_append.2 (.inr he)) k hk
 ·
  obtain ⟨e', he', hk2⟩ := hr k hk
  exact hd.2.2 e' he' y hy k hk2 hk'
theorem Mem.freeze1 {w : World} {e : Ent} (x : τ) (hg : d.good (hp w) x) (hr : ∀ k, r.reach x k → e.fp k) (h : Mem w0 (e :: L) w) : Mem w0 (fz x :: L) w :=
 Mem.freeze (es := [e]) x hg (fun k hk => ⟨e, by simp, hr k hk⟩) h
end
end Go.Eng

/- A bag of entries beside a row. -/
namespace Go.Eng
open Go.RowKit Go.Kb
section
variable {w0 : World} {L : List Ent} {τ : Type} [Deep τ] {xs : List τ} {es : List Ent}
theorem Mem.bag0 {w : World} (h : Mem w0 L w) : Mem w0 (Ent.all [] :: L) w := Mem.emp_iff.2 h
theorem Mem.bagPush {w : World} {e : Ent} (h : Mem w0 (e :: Ent.all es :: L) w) : Mem w0 (Ent.all (e :: es) :: L) w := Mem.two_iff.2 h
theorem Mem.shutP {w : World} {s : Sv} {enc : τ → Array Value} {c : Nat} [f : FlatT τ enc c] [Plain τ] (h : Mem w0 (own enc c s xs :: L) w) : Mem w0 (Deep.ent (⟨s, xs⟩ : Sl τ) :: L) w := Tr.shut_p.mem h
end
end Go.Eng

/- The types that reach memory. -/
namespace Go.Kb
open Go.Eng

structure It where
 id : Int
 body : Sl UInt8
def icells (x : It) : Array Value := #[.int .i64 x.id, x.body.sv.val]
instance : Enc icells 2 := ⟨fun _ => rfl, fun x => by
 have h1 : (Value.int .i64 x.id).oneCell' = true := rfl
 simp only [icells, List.all_toArray, List.all_cons, List.all_nil, Sv.one, h1, Bool.and_self]⟩
instance (x : It) : CellAt (icells x) 0 (.int .i64 x.id) := ⟨rfl⟩
instance (x : It) : CellAt (icells x) 1 x.body.sv.val := ⟨rfl⟩
instance : Deep It where
 c := 2
 cells := icells
 size := Enc.size
 one := Enc.one
 good h x := Deep.good h x.body
 ent x := Deep.ent x.body
 good_of h x hs := Deep.good_of h x.body hs
 mono w w' x := Deep.mono w w' x.body
instance : FlatT It icells 2 := ⟨rfl, fun _ => rfl⟩
instance {w0 : World} {L : List Ent} {x : It} [q : HdD w0 L x] : HdD w0 L x.body := ⟨q.h⟩
def its (a : Sl It) : List (Int × List UInt8) := a.xs.map fun x => (x.id, x.body.xs)
end Go.Kb

/- A trie's nodes, and the ways to them. No program in sight. -/
namespace Go.Kb

structure Slt where
 len : Int
 hop : UInt16
 deriving DecidableEq
structure Nd where
 slots : List Slt
 nexts : List Int
 hs : slots.length = 16
 hn : nexts.length = 16
 deriving DecidableEq

/-! Four bits of a key. -/
def rset (k : Key) (n b : Nat) : Key := if n % 2 = 0 then kset k (n / 2) (16 * b % 256) else kset k (n / 2) ((kbyte k (n / 2) + b) % 256)

def lastN (p : Pfx) : Nat := ((p.len - 1) / 4).toNat
structure Wy where
 steps : Nat
 key : Key
 deriving DecidableEq
def root : Wy := ⟨0, 0#128⟩

def hit (r : Rt) (bits : Int) (w : Wy) (b : Nat) : Bool := decide (r.p.bits = bits) && decide (lastN r.p = w.steps) && pfits r.p (rset w.key w.steps b)

/-! Bits of a key whose four bits are set. -/

section
variable {k : Key} {n b : Nat}
end

/-! Ways put together. -/
end Go.Kb

/- A table becomes a trie, route by route. No program in sight. -/
namespace Go.Kb

section
variable {bits : Int} {W : List Wy} {R : List Rt} {w : Wy} {node b : Nat}
end

/-! The slots that a route fits. -/

section
variable {bits : Int} {W : List Wy} {R : List Rt} {r : Rt} {f : Nat}
end

/-! A whole table. -/
end Go.Kb

/- A trie's nodes, its ways and whole numbers as cells: what is read and written of them. -/
namespace Go.Kb
open Go.Eng

/-! Whole numbers. -/
def iec (x : Int) : Array Value := #[.int .i64 x]
instance : Enc iec 1 := ⟨fun _ => rfl, fun _ => by simp [iec, Value.oneCell']⟩
instance (x : Int) : CellAt (iec x) 0 (.int .i64 x) := ⟨rfl⟩
instance : Deep Int := Deep.flat iec 1
instance : FlatT Int iec 1 := ⟨rfl, fun _ => rfl⟩
instance : Plain Int := ⟨fun _ => rfl⟩

/-! Truths. -/

/-! Slots. -/

/-! Nodes. -/

/-! Ways. -/

/-! Tries. -/
end Go.Kb
namespace Go.Eng
open Go.Kb
section
variable {P : Program} {N : Fra} {w0 : World} {env : Env} {L : List Ent} {d : Option Tmp} {ty : TypeId} {ps : String} {af : Array Edge} {gd : Option (Nat × Bool)}
theorem ry_nilp {x : Operand} {a : Addr} (hx : ev env x = some (.pointer (some a))) : Ry P N w0 env L ⟨d, .nilCheck x, ty, ps, af, gd⟩ (.pointer (some a)) := fun _ w ha _ => by
 simp only [execOp, ha.ev hx, Sem.run_pure]
variable {s : Sv} {xs : List Nd} {a : Nd}
/-! What is read of a node in a slice. -/
/-! .. of one in a block. -/
end
section
variable {P : Program} {N : Fra} {w0 : World} {env : Env} {L : List Ent} {l : List Oper} {Q : Exit → Act → World → Prop} {rest : List Oper} {ty : TypeId} {ps : String} {af : Array Edge}
variable {s : Sv} {xs : List Nd} {a : Nd}
/-! What is written. -/
end
end Go.Eng

/- A chip of flash, its blocks and faults, as cells. -/
namespace Go.Kb
open Go.Eng
theorem intone (k : IntKind) (n : Int) : (Value.int k n).oneCell' = true := rfl
theorem boolone (b : Bool) : (Value.bool b).oneCell' = true := rfl
instance : Rea Int := Rea.flat fun _ _ => trivial
structure Ft where
 op : Int
 fail : Bool
 cut : Bool
 mask : UInt8
 deriving DecidableEq
def ftcells (x : Ft) : Array Value := #[.int .i64 x.op, .bool x.fail, .bool x.cut, .int .u8 x.mask.toNat]
instance : Enc ftcells 4 := ⟨fun _ => rfl, fun x => by
 simp only [ftcells, List.all_toArray, List.all_cons, List.all_nil, Sv.one, intone, boolone, Bool.and_self]⟩
instance (x : Ft) : SizeIs (ftcells x) 4 := ⟨rfl, Enc.one x⟩
instance (x : Ft) : CellAt (ftcells x) 0 (.int .i64 x.op) := ⟨rfl⟩
instance (x : Ft) : CellAt (ftcells x) 1 (.bool x.fail) := ⟨rfl⟩
instance (x : Ft) : CellAt (ftcells x) 2 (.bool x.cut) := ⟨rfl⟩
instance (x : Ft) : CellAt (ftcells x) 3 (.int .u8 x.mask.toNat) := ⟨rfl⟩
instance : Deep Ft := Deep.flat ftcells 4
instance : Plain Ft := ⟨fun _ => rfl⟩
instance : Rea Ft := Rea.flat fun _ _ => trivial
instance : FlatT Ft ftcells 4 := ⟨rfl, fun _ => rfl⟩
def zFt : Ft := ⟨0, false, false, 0⟩
structure Bk where
 pages : Sl (Sl UInt8)
 used : Int
 worn : Int
 bad : Bool
def bkcells (x : Bk) : Array Value := #[x.pages.sv.val, .int .i64 x.used, .int .i64 x.worn, .bool x.bad]
instance : Enc bkcells 4 := ⟨fun _ => rfl, fun x => by
 simp only [bkcells, List.all_toArray, List.all_cons, List.all_nil, Sv.one, intone, boolone, Bool.and_self]⟩
instance (x : Bk) : SizeIs (bkcells x) 4 := ⟨rfl, Enc.one x⟩
instance (x : Bk) : CellAt (bkcells x) 0 (x.pages.sv.val) := ⟨rfl⟩
instance (x : Bk) : CellAt (bkcells x) 1 (.int .i64 x.used) := ⟨rfl⟩
instance (x : Bk) : CellAt (bkcells x) 2 (.int .i64 x.worn) := ⟨rfl⟩
instance (x : Bk) : CellAt (bkcells x) 3 (.bool x.bad) := ⟨rfl⟩
instance : Deep Bk where
 c := 4
 cells := bkcells
 size := Enc.size
 one := Enc.one
 good h x := Deep.good h x.pages
 ent x := Deep.ent x.pages
 good_of h x hs := Deep.good_of h x.pages hs
 mono w w' x hg hb := Deep.mono w w' x.pages hg hb
instance : Rea Bk where
 reach x k := Rea.reach x.pages k
 congr h h' x e hg := Rea.congr h h' x.pages (fun k hk => e k (hk)) hg
instance {w0 : World} {L : List Ent} {x : Bk} [q : HdD w0 L x] : HdD w0 L x.pages := ⟨fun w hw => (q.h w hw)⟩
instance : FlatT Bk bkcells 4 := ⟨rfl, fun _ => rfl⟩
def zBk : Bk := ⟨⟨Sv.none, []⟩, 0, 0, false⟩
structure Cp where
 pages : Int
 size : Int
 blocks : Sl Bk
 ops : Int
 off : Bool
 faults : Sl Ft
def cpcells (x : Cp) : Array Value := #[.int .i64 x.pages, .int .i64 x.size, x.blocks.sv.val, .int .i64 x.ops, .bool x.off, x.faults.sv.val]
instance : Enc cpcells 6 := ⟨fun _ => rfl, fun x => by
 simp only [cpcells, List.all_toArray, List.all_cons, List.all_nil, Sv.one, intone, boolone, Bool.and_self]⟩
instance (x : Cp) : SizeIs (cpcells x) 6 := ⟨rfl, Enc.one x⟩
instance (x : Cp) : CellAt (cpcells x) 0 (.int .i64 x.pages) := ⟨rfl⟩
instance (x : Cp) : CellAt (cpcells x) 1 (.int .i64 x.size) := ⟨rfl⟩
instance (x : Cp) : CellAt (cpcells x) 2 (x.blocks.sv.val) := ⟨rfl⟩
instance (x : Cp) : CellAt (cpcells x) 3 (.int .i64 x.ops) := ⟨rfl⟩
instance (x : Cp) : CellAt (cpcells x) 4 (.bool x.off) := ⟨rfl⟩
instance (x : Cp) : CellAt (cpcells x) 5 (x.faults.sv.val) := ⟨rfl⟩
instance : Deep Cp where
 c := 6
 cells := cpcells
 size := Enc.size
 one := Enc.one
 good h x := Deep.good h x.blocks ∧ Deep.good h x.faults
 ent x := .two (Deep.ent x.blocks) (Deep.ent x.faults)
 good_of h x hs := ⟨Deep.good_of h x.blocks hs.1, Deep.good_of h x.faults hs.2.1⟩
 mono w w' x hg hb := ⟨Deep.mono w w' x.blocks hg.1 hb, Deep.mono w w' x.faults hg.2 hb⟩
instance : Rea Cp where
 reach x k := Rea.reach x.blocks k ∨ Rea.reach x.faults k
 congr h h' x e hg := ⟨Rea.congr h h' x.blocks (fun k hk => e k (.inl hk)) hg.1, Rea.congr h h' x.faults (fun k hk => e k (.inr hk)) hg.2⟩
instance {w0 : World} {L : List Ent} {x : Cp} [q : HdD w0 L x] : HdD w0 L x.blocks := ⟨fun w hw => (q.h w hw).1⟩
instance {w0 : World} {L : List Ent} {x : Cp} [q : HdD w0 L x] : HdD w0 L x.faults := ⟨fun w hw => (q.h w hw).2⟩
instance {w0 : World} {L : List Ent} {pages : Int} {size : Int} {blocks : Sl Bk} {ops : Int} {off : Bool} {faults : Sl Ft} [q0 : HdD w0 L blocks] [q1 : HdD w0 L faults] : HdD w0 L (Cp.mk pages size blocks ops off faults) := ⟨fun w hw => ⟨q0.h w hw, q1.h w hw⟩⟩
def zCp : Cp := ⟨0, 0, ⟨Sv.none, []⟩, 0, false, ⟨Sv.none, []⟩⟩
end Go.Kb

/- What stands on a chip; owned pages; what is let go of. No program in sight. -/
namespace Go.Eng
theorem Lies.cut {α : Type} {enc : α → Array Value} {c : Nat} {h : Nat → Option Obj} {s : Sv} {xs : List α} (r : Lies enc c h s xs) {lo hi : Nat} (h1 : lo ≤ hi) (h2 : hi ≤ xs.length) : Lies enc c h ⟨s.nil, s.b, if hi = lo then s.o else s.o + lo * c, hi - lo, hi - lo, s.sp⟩ ((xs.drop lo).take (hi - lo)) := by
  have hl := r.len
  have hle := r.ok.le
  have hbd := r.ok.bd
  refine ⟨⟨fun hn => ?_, Nat.le_refl _, ?_, fun hc => ?_⟩, ?_, fun i x hi' j hj => ?_⟩
  · have := r.ok.nil hn
    simp only at this ⊢; omega
  · simp only; omega
  · simp only at hc ⊢; exact r.ok.sp (by omega)
  · simp; omega
  · have hil := (List.getElem?_eq_some_iff.1 hi').1
    rw [List.length_take, List.length_drop] at hil
    have hx : xs[lo + i]? = Option.some x := by rw [List.getElem?_take, if_pos (by omega), List.getElem?_drop] at hi'; exact hi'
    have := r.row (lo + i) x hx j hj
    simp only
    rw [if_neg (by omega), show s.o + lo * c + i * c + j = s.o + (lo + i) * c + j by rw [Nat.add_mul]; omega]
    exact this
end Go.Eng
namespace Go.Kb
open Go.Eng
/-! What stands there. -/
structure BV where
  pages : List (List UInt8)
  used : Int
  worn : Int
  bad : Bool
  deriving DecidableEq
structure CV where
  pages : Int
  size : Int
  blocks : List BV
  ops : Int
  off : Bool
  faults : List Ft
  deriving DecidableEq
def txs (l : List (Sl UInt8)) : List (List UInt8) := l.map fun x => x.xs
theorem txs_length (l : List (Sl UInt8)) : (txs l).length = l.length := by simp [txs]
theorem txs_get {l : List (Sl UInt8)} {i : Nat} {x : Sl UInt8} (h : l[i]? = some x) : (txs l)[i]? = some x.xs := by simp [txs, h]
def bv (b : Bk) : BV := ⟨txs b.pages.xs, b.used, b.worn, b.bad⟩
def bvs (l : List Bk) : List BV := l.map bv
theorem bvs_length (l : List Bk) : (bvs l).length = l.length := by simp [bvs]
theorem bvs_get {l : List Bk} {i : Nat} {x : Bk} (h : l[i]? = some x) : (bvs l)[i]? = some (bv x) := by simp [bvs, h]
def cv (c : Cp) : CV := ⟨c.pages, c.size, bvs c.blocks.xs, c.ops, c.off, c.faults.xs⟩

/-! Pages that lie in one room. -/
def win (rm : Sv) (lo hi : Nat) : Sv := ⟨rm.nil, rm.b, if hi = lo then rm.o else rm.o + lo, hi - lo, hi - lo, rm.sp⟩
def wins (rm : Sv) : Nat → List (List UInt8) → List (Sl UInt8)
  | _, [] => []
  | o, p :: r => ⟨win rm o (o + p.length), p⟩ :: wins rm (o + p.length) r
theorem wins_txs (rm : Sv) : ∀ (o : Nat) (l : List (List UInt8)), txs (wins rm o l) = l
  | _, [] => rfl
  | o, p :: r => by
    have := wins_txs rm (o + p.length) r
    simp only [txs, wins, List.map_cons] at this ⊢
    rw [this]
theorem wins_length (rm : Sv) : ∀ (o : Nat) (l : List (List UInt8)), (wins rm o l).length = l.length
  | _, [] => rfl
  | o, p :: r => by rw [wins, List.length_cons, List.length_cons, wins_length]
theorem wins_b (rm : Sv) : ∀ (o : Nat) (l : List (List UInt8)) (x : Sl UInt8), x ∈ wins rm o l → x.sv.b = rm.b
  | _, [], _, h => by cases h
  | o, p :: r, x, h => by
    rcases List.mem_cons.1 h with rfl | h
    · rfl
    · exact wins_b rm _ r x h
theorem wins_snoc (rm : Sv) : ∀ (o : Nat) (l : List (List UInt8)) (p : List UInt8), wins rm o (l ++ [p]) = wins rm o l ++ [⟨win rm (o + l.flatten.length) (o + l.flatten.length + p.length), p⟩]
  | o, [], p => by simp [wins]
  | o, q :: r, p => by
    rw [List.cons_append, wins, wins_snoc, wins]
    simp only [List.flatten_cons, List.length_append, List.cons_append, Nat.add_assoc]
theorem wins_lies {rm : Sv} {h : Nat → Option Obj} {all : List UInt8} (hl : Lies benc 1 h rm all) : ∀ (o : Nat) (l : List (List UInt8)), o + l.flatten.length ≤ all.length → (all.drop o).take l.flatten.length = l.flatten → ∀ x ∈ wins rm o l, Lies benc 1 h x.sv x.xs
  | _, [], _, _, _, hx => by cases hx
  | o, p :: r, hb, he, x, hx => by
    rw [List.flatten_cons, List.length_append] at hb
    rw [List.flatten_cons, List.length_append] at he
    have e1 : (all.drop o).take p.length = p := by
      have := congrArg (List.take p.length) he
      rw [List.take_take, Nat.min_eq_left (by omega), List.take_left'] at this
      · exact this
      · rfl
    have e2 : (all.drop (o + p.length)).take r.flatten.length = r.flatten := by
      have := congrArg (List.drop p.length) he
      rw [List.drop_take, List.drop_drop, List.drop_left' rfl, show p.length + r.flatten.length - p.length = r.flatten.length by omega] at this
      exact this
    rcases List.mem_cons.1 hx with rfl | hx
    · have := hl.cut (lo := o) (hi := o + p.length) (by omega) (by omega)
      rw [Nat.mul_one, show o + p.length - o = p.length by omega, e1] at this
      simpa [win] using this
    · exact wins_lies hl (o + p.length) r (by omega) e2 x hx
def roomE (a : Sl (Sl UInt8)) : Ent := ⟨fun k => ∃ x ∈ a.xs, k = x.sv.b, fun h => a.xs = [] ∨ ∃ rm, rm.nil = false ∧ a.xs = wins rm 0 (txs a.xs) ∧ (own benc 1 rm (txs a.xs).flatten).sat h, fun h h' e s => by
  rcases s with s | ⟨rm, h1, h2, h3⟩
  · exact .inl s
  · rcases List.eq_nil_or_concat a.xs with hx | ⟨l, x, hx⟩
    · exact .inl hx
    · have hm : x ∈ a.xs := by rw [hx]; simp
      have hb : x.sv.b = rm.b := wins_b rm 0 _ x (h2 ▸ hm)
      exact .inr ⟨rm, h1, h2, (own benc 1 rm (txs a.xs).flatten).loc h h' (fun k hk => e k ⟨x, hm, by rw [hb]; exact hk.2⟩) h3⟩⟩
def pgE (a : Sl (Sl UInt8)) : Ent := .two (own (scells (τ := UInt8)) 1 a.sv a.xs) (roomE a)
theorem roomE_lies {a : Sl (Sl UInt8)} {h : Nat → Option Obj} (s : (roomE a).sat h) : ∀ x ∈ a.xs, Lies benc 1 h x.sv x.xs := fun x hx => by
  rcases s with s | ⟨rm, h1, h2, h3⟩
  · rw [s] at hx; cases hx
  · refine wins_lies h3.1 0 (txs a.xs) (by omega) (by rw [List.drop_zero, List.take_length]) x (h2 ▸ hx)
theorem own_fp' {α : Type} {enc : α → Array Value} {c : Nat} {s : Sv} {xs : List α} {h : Nat → Option Obj} (hl : Lies enc c h s xs) (hx : xs ≠ []) : (own enc c s xs).fp s.b :=
  ⟨hl.ok.some (by have := hl.len; have := List.length_pos_iff.2 hx; omega), rfl⟩
/-! Entries of a row. -/
theorem Ent.all_fp' {k : Nat} : ∀ {es : List Ent} {e : Ent}, e ∈ es → e.fp k → (Ent.all es).fp k
  | _ :: _, _, he, hk => (List.mem_cons.1 he).elim (fun h => .inl (h ▸ hk)) fun h => .inr (Ent.all_fp' h hk)
theorem perm_eraseG {α : Type} {e : α} : ∀ {L : List α} {i : Nat}, L[i]? = Option.some e → L.Perm (e :: L.eraseIdx i)
  | [], i, h => by simp at h
  | x :: L, 0, h => by obtain rfl : x = e := by simpa using h
                       simp
  | x :: L, i + 1, h => by
    have := perm_eraseG (L := L) (i := i) (by simpa using h)
    rw [List.eraseIdx_cons_succ]
    exact (this.cons x).trans (.swap _ _ _)
theorem Mem.pick {τ : Type} {f : τ → Ent} {w0 w : World} {L : List Ent} {xs : List τ} {i : Nat} {x : τ} (hx : xs[i]? = some x) : Mem w0 (Ent.all (xs.map f) :: L) w ↔ Mem w0 (f x :: Ent.all ((xs.eraseIdx i).map f) :: L) w := by
  have hp : (xs.map f).Perm (f x :: (xs.eraseIdx i).map f) := by
    have := perm_eraseG hx
    simpa using this.map f
  rw [Mem.all_iff]
  have e : Mem w0 (f x :: Ent.all ((xs.eraseIdx i).map f) :: L) w ↔ Mem w0 (f x :: ((xs.eraseIdx i).map f ++ L)) w := by
    have sw : ∀ (a b : Ent) (K : List Ent), Mem w0 (a :: b :: K) w ↔ Mem w0 (b :: a :: K) w := fun a b K => ⟨fun h => h.perm (List.Perm.swap _ _ _), fun h => h.perm (List.Perm.swap _ _ _)⟩
    rw [sw, Mem.all_iff]
    exact ⟨fun h => h.perm List.perm_middle, fun h => h.perm List.perm_middle.symm⟩
  rw [e]
  exact ⟨fun h => h.perm (hp.append_right L), fun h => h.perm (hp.append_right L).symm⟩
theorem frzB {w0 w : World} {L : List Ent} {a : Sl Bk} (h : Mem w0 (own bkcells 4 a.sv a.xs :: Ent.all (a.xs.map fun b : Bk => pgE b.pages) :: L) w) : Mem w0 (fz a :: L) w := by
  have hs := h.sat (own bkcells 4 a.sv a.xs) (by simp)
  have ha := h.sat (Ent.all (a.xs.map fun b : Bk => pgE b.pages)) (by simp)
  have hb : ∀ x ∈ a.xs, (pgE x.pages).sat fun k => w.heap[k]? := fun x hx => Ent.all_sat ha _ (List.mem_map_of_mem hx)
  refine Mem.freeze (es := [own bkcells 4 a.sv a.xs, Ent.all (a.xs.map fun b : Bk => pgE b.pages)]) a ⟨hs.1, fun x hx => ⟨(hb x hx).1.1, fun y hy => ⟨roomE_lies (hb x hx).2.1 y hy, fun _ _ => trivial⟩⟩⟩ (fun k hk => ?_) h
  rcases hk with ⟨hne, rfl⟩ | ⟨x, hx, hk⟩
  · exact ⟨_, by simp, own_fp' hs.1 hne⟩
  · refine ⟨Ent.all (a.xs.map fun b : Bk => pgE b.pages), by simp, Ent.all_fp' (List.mem_map_of_mem hx) ?_⟩
    rcases hk with ⟨hne, rfl⟩ | ⟨y, hy, ⟨_, rfl⟩ | ⟨_, _, hf⟩⟩
    · exact .inl (own_fp' (hb x hx).1.1 hne)
    · exact .inr ⟨y, hy, rfl⟩
    · exact hf.elim
theorem frzF {τ : Type} [Deep τ] [r : Rea τ] [Plain τ] {enc : τ → Array Value} {c : Nat} [f : FlatT τ enc c] (hr : ∀ (x : τ) k, ¬ r.reach x k) (hg : ∀ h (x : τ), Deep.good h x) {w0 w : World} {L : List Ent} {a : Sl τ} (h : Mem w0 (own enc c a.sv a.xs :: L) w) : Mem w0 (fz a :: L) w := by
  have hs := h.sat (own enc c a.sv a.xs) (by simp)
  have e1 : Deep.cells (τ := τ) = enc := funext (FlatT.h (c := c))
  have e2 : Deep.c τ = c := FlatT.hc (enc := enc)
  refine Mem.freeze1 a ⟨by rw [e1, e2]; exact hs.1, fun x _ => hg _ x⟩ (fun k hk => ?_) h
  rcases hk with ⟨hne, rfl⟩ | ⟨x, _, hk⟩
  · exact own_fp' hs.1 hne
  · exact (hr x k hk).elim
theorem frzC {w0 w : World} {L : List Ent} {d : Cp} (h : Mem w0 (fz d.blocks :: fz d.faults :: L) w) : Mem w0 (fz d :: L) w := by
  refine Mem.freeze (es := [fz d.blocks, fz d.faults]) d ⟨h.sat (fz d.blocks) (by simp), h.sat (fz d.faults) (by simp)⟩ (fun k hk => ?_) h
  rcases hk with hk | hk
  · exact ⟨fz d.blocks, by simp, hk⟩
  · exact ⟨fz d.faults, by simp, hk⟩
theorem frzFt {w0 w : World} {L : List Ent} {a : Sl Ft} (h : Mem w0 (own ftcells 4 a.sv a.xs :: L) w) : Mem w0 (fz a :: L) w := frzF (fun _ _ h => h) (fun _ _ => trivial) h
theorem frzI {w0 w : World} {L : List Ent} {a : Sl Int} (h : Mem w0 (own iec 1 a.sv a.xs :: L) w) : Mem w0 (fz a :: L) w := frzF (fun _ _ h => h) (fun _ _ => trivial) h
theorem frzU {w0 w : World} {L : List Ent} {a : Sl UInt8} (h : Mem w0 (own benc 1 a.sv a.xs :: L) w) : Mem w0 (fz a :: L) w := frzF (fun _ _ h => h) (fun _ _ => trivial) h
end Go.Kb

/- A chip of flash: what each operation makes of it. No program in sight. -/
namespace Go.Kb
open Go.Eng
def ctop : Int := 1099511627776
def soundF (b p s : Int) : Bool := decide (1 ≤ b) && decide (b ≤ 32) && decide (1 ≤ p) && decide (p ≤ 16) && decide (1 ≤ s) && decide (s ≤ 256)
theorem soundF_iff {b p s : Int} : soundF b p s = true ↔ 1 ≤ b ∧ b ≤ 32 ∧ 1 ≤ p ∧ p ≤ 16 ∧ 1 ≤ s ∧ s ≤ 256 := by
 simp only [soundF, Bool.and_eq_true, decide_eq_true_eq, and_assoc]
def pgOk (s : Int) (x : List UInt8) : Bool := decide ((x.length : Int) = s)
def bkOk (p s : Int) (b : BV) : Bool := decide ((b.pages.length : Int) = p) && decide (0 ≤ b.used) && decide (b.used ≤ p) && decide (0 ≤ b.worn) && decide (b.worn ≤ ctop) && b.pages.all (pgOk s)
theorem bkOk_iff {p s : Int} {b : BV} : bkOk p s b = true ↔ (b.pages.length : Int) = p ∧ 0 ≤ b.used ∧ b.used ≤ p ∧ 0 ≤ b.worn ∧ b.worn ≤ ctop ∧ ∀ x ∈ b.pages, (x.length : Int) = s := by
 simp only [bkOk, pgOk, Bool.and_eq_true, decide_eq_true_eq, and_assoc, List.all_eq_true]
def chipOk (c : CV) : Bool := soundF c.blocks.length c.pages c.size && decide (0 ≤ c.ops) && decide (c.ops ≤ ctop) && decide (c.faults.length ≤ 64) && c.blocks.all (bkOk c.pages c.size)
theorem chipOk_iff {c : CV} : chipOk c = true ↔ soundF c.blocks.length c.pages c.size = true ∧ 0 ≤ c.ops ∧ c.ops ≤ ctop ∧ c.faults.length ≤ 64 ∧ ∀ b ∈ c.blocks, bkOk c.pages c.size b = true := by
 simp only [chipOk, Bool.and_eq_true, decide_eq_true_eq, and_assoc, List.all_eq_true]
def hasF (c : CV) (block : Int) : Bool := chipOk c && decide (0 ≤ block) && decide (block < c.blocks.length)
theorem hasF_iff {c : CV} {block : Int} : hasF c block = true ↔ chipOk c = true ∧ 0 ≤ block ∧ block < c.blocks.length := by
 simp only [hasF, Bool.and_eq_true, decide_eq_true_eq, and_assoc]
def zBV : BV := ⟨[], 0, 0, false⟩
def blkAt (c : CV) (block : Int) : BV := c.blocks.getD block.toNat zBV
def blankP (n : Int) : List UInt8 := List.replicate n.toNat 255
def newF (b p s : Int) : CV × Int := if soundF b p s = true then (⟨p, s, List.replicate b.toNat ⟨List.replicate p.toNat (blankP s), 0, 0, false⟩, 0, false, []⟩, 0) else (⟨0, 0, [], 0, false, []⟩, 1)
def strikesF (c : CV) : Ft × Bool := match c.faults.find? fun f => decide (f.op = c.ops) with
 | some f => (f, f.cut || f.fail)
 | none => (zFt, false)
def struckE (f : Ft) : Int := if f.cut = true then 7 else 9
def progOk (c : CV) (block page : Int) (p : List UInt8) : Bool := hasF c block && decide (0 ≤ page) && decide (page < c.pages) && decide ((p.length : Int) = c.size) && decide (c.ops < ctop)
theorem progOk_iff {c : CV} {block page : Int} {p : List UInt8} : progOk c block page p = true ↔ hasF c block = true ∧ 0 ≤ page ∧ page < c.pages ∧ (p.length : Int) = c.size ∧ c.ops < ctop := by
 simp only [progOk, Bool.and_eq_true, decide_eq_true_eq, and_assoc]
def hurt (m : UInt8) (p : List UInt8) : List UInt8 := p.map fun x => x ||| m
def progP (c : CV) (p : List UInt8) : List UInt8 := if (strikesF c).2 = true then hurt (~~~(strikesF c).1.mask) p else p
def progC (c : CV) (block page : Int) (p : List UInt8) : CV :=
 { c with ops := c.ops + 1, off := (strikesF c).2 && (strikesF c).1.cut, blocks := c.blocks.set block.toNat { blkAt c block with used := (blkAt c block).used + 1, pages := (blkAt c block).pages.set page.toNat (progP c p) } }
def progE (c : CV) (block page : Int) (p : List UInt8) : Int :=
 if progOk c block page p = true then (if c.off = true then 7 else if (blkAt c block).bad = true ∨ page ≠ (blkAt c block).used then 9 else if (strikesF c).2 = true then struckE (strikesF c).1 else 0) else 1
def programF (c : CV) (block page : Int) (p : List UInt8) : CV :=
 if progOk c block page p = true ∧ c.off = false ∧ (blkAt c block).bad = false ∧ page = (blkAt c block).used then progC c block page p else c
def eraseOk (c : CV) (block : Int) : Bool := hasF c block && decide (c.ops < ctop) && decide ((blkAt c block).worn < ctop)
theorem eraseOk_iff {c : CV} {block : Int} : eraseOk c block = true ↔ hasF c block = true ∧ c.ops < ctop ∧ (blkAt c block).worn < ctop := by
 simp only [eraseOk, Bool.and_eq_true, decide_eq_true_eq, and_assoc]
def erasePg (c : CV) (ps : List (List UInt8)) : List (List UInt8) := if (strikesF c).2 = true then ps.map (hurt (strikesF c).1.mask) else ps.map fun _ => blankP c.size
def eraseC (c : CV) (block : Int) : CV :=
 { c with ops := c.ops + 1, off := (strikesF c).2 && (strikesF c).1.cut, blocks := c.blocks.set block.toNat { blkAt c block with used := if (strikesF c).2 = true then c.pages else 0, worn := (blkAt c block).worn + 1, pages := erasePg c (blkAt c block).pages } }
def eraseE (c : CV) (block : Int) : Int :=
 if eraseOk c block = true then (if c.off = true then 7 else if (blkAt c block).bad = true then 9 else if (strikesF c).2 = true then struckE (strikesF c).1 else 0) else 1
def eraseF (c : CV) (block : Int) : CV := if eraseOk c block = true ∧ c.off = false ∧ (blkAt c block).bad = false then eraseC c block else c
def markE (c : CV) (block : Int) : Int := if hasF c block = true then (if c.off = true then 7 else 0) else 1
def markF (c : CV) (block : Int) : CV := if markE c block = 0 then { c with blocks := c.blocks.set block.toNat { blkAt c block with bad := true } } else c
def onE (c : CV) (fs : List Ft) : Int := if chipOk c = true ∧ fs.length ≤ 64 then 0 else 1
def onF (c : CV) (fs : List Ft) : CV := if onE c fs = 0 then { c with off := false, faults := fs } else c
theorem blkAt_get {c : CV} {block : Int} (h : hasF c block = true) : c.blocks[block.toNat]? = some (blkAt c block) := by
 obtain ⟨_, h2, h3⟩ := hasF_iff.1 h
 exact get_getD (by omega)
theorem blkAt_ok {c : CV} {block : Int} (h : hasF c block = true) : bkOk c.pages c.size (blkAt c block) = true :=
 (chipOk_iff.1 (hasF_iff.1 h).1).2.2.2.2 _ (List.mem_of_getElem? (blkAt_get h))
end Go.Kb

/- Rows made longer in their room; a room's windows written. -/
namespace Go.Eng
open Go.RowKit
section
variable {α : Type} {enc : α → Array Value} {c : Nat}
theorem append_in {P : Program} {t tx ty e : TypeId} {by' : Nat} (ht : SlT P t e c by') [he : Enc enc c] {w0 w : World} {L : List Ent} {i : Nat} {s : Sv} {xs ys : List α} {x : Value}
  (hw : Mem w0 L w) (hi : L[i]? = some (own enc c s xs)) (hs : Src P c tx x ys.length (flatR enc ys) w) (hn : s.nil = false) (hroom : s.len + ys.length ≤ s.cap) (hbd : s.len + ys.length ≤ 140737488355328) :
  ∃ w', (Builtin.append_ #[t, tx] ty #[s.val, x]).run P w = .ok (Sv.val { s with len := s.len + ys.length }) w' ∧ Mem w0 (L.set i (own enc c { s with len := s.len + ys.length } (xs ++ ys))) w' := by
 obtain ⟨r, hrow⟩ := hw.get hi
 obtain ⟨i', z, hi1, hi2, hi3, hi4, hzc⟩ := ht.info
 subst hi3 hi4
 have hlen := r.len
 have hle := r.ok.le
 obtain ⟨hsp, cs, T, fz, hblk, hsz, hfz, hf0⟩ := hrow hn
 have hmul : (s.len + ys.length) * i'.size ≤ s.cap * i'.size := Nat.mul_le_mul_right _ hroom
 have hfl : (flatR enc ys).length = ys.length * i'.size := flatR_length ys
 have hfit : s.o + s.len * i'.size + (flatR enc ys).toArray.size ≤ cs.size := by
  rw [List.size_toArray, hfl]; rw [Nat.add_mul] at hmul; omega
 have hst := run_storeCells_free (P := P) s.b (s.o + s.len * i'.size) T fz (flatR enc ys) 0 cs w hblk hfz (by simpa using hfit) hs.one
 have hst' : (storeCells ⟨s.b, s.o + s.len * i'.size, none⟩ (flatR enc ys)).run P w = .ok () (w.setRow s.b (over cs (s.o + s.len * i'.size) (flatR enc ys).toArray)) := by
  simpa [over] using hst
 refine ⟨w.setRow s.b (over cs (s.o + s.len * i'.size) (flatR enc ys).toArray), ?_, ?_⟩
 ·
  have hv' : ({ s with len := s.len + ys.length } : Sv).val = .slice (some ⟨s.b, s.o, s.sp⟩) (s.len + ys.length) s.cap := Sv.val_some (s := { s with len := s.len + ys.length }) hn
  rw [Sv.val_some hn, hv', hsp]
  rcases hs.kind with ⟨e', hk⟩ | hk <;> simp [Builtin.append_, run_underlying ht.und, run_underlying hk, sizeOf, typeInfo, hi1, hs.len, hroom, hs.cells, Addr.add_none, hst']
 ·
  have hb' : hp (w.setRow s.b (over cs (s.o + s.len * i'.size) (flatR enc ys).toArray)) s.b = some (.cells (over cs (s.o + s.len * i'.size) (flatR enc ys).toArray) T fz) := setRow_heap w s.b cs _ T fz hblk
  refine hw.change hi (fun k hk => hk) (fun k hk => ?_) (by simp [World.setRow]) ⟨rfl, rfl, rfl⟩ ⟨rows_of ⟨(fun h => by rw [hn] at h; cases h), hroom, by simp only; omega, r.ok.sp⟩ (by simp [hlen]) hb' fun k y hy j hj => ?_, fun _ => ⟨hsp, _, _, _, hb', ?_, by rw [over_size hfit]; exact hfz, hf0⟩⟩
  ·
   exact setRow_other w s.b k _ (fun e => hk ⟨hn, e⟩)
  ·
   rw [cells_over hfit]
   by_cases hk : k < xs.length
   ·
    rw [if_neg, ← r.row k y (by rw [List.getElem?_append_left hk] at hy; exact hy) j hj]
    ·
     unfold cellH; rw [hblk]
    ·
     have : (k + 1) * i'.size ≤ s.len * i'.size := Nat.mul_le_mul_right _ (by omega)
     rw [Nat.add_mul] at this
     intro h; have := h.1; simp only at this; omega
   ·
    rw [List.getElem?_append_right (by omega)] at hy
    have hg' := flatR_get (enc := enc) ys (k - xs.length) y hy j hj
    have hk2 : s.len * i'.size + (k - xs.length) * i'.size = k * i'.size := by rw [← Nat.add_mul]; congr 1; omega
    have hlt : (k - xs.length + 1) * i'.size ≤ ys.length * i'.size := Nat.mul_le_mul_right _ (by have := (List.getElem?_eq_some_iff.1 hy).1; omega)
    rw [Nat.add_mul] at hlt
    rw [if_pos ⟨by simp only; omega, by rw [List.size_toArray, hfl]; simp only; omega⟩, ← hg']
    simp only [List.getElem?_toArray]
    congr 1; omega
  ·
   rw [over_size hfit]; exact hsz
theorem row_over {P : Program} {w0 w : World} {L : List Ent} {i : Nat} {s : Sv} {xs ys : List α} [he : Enc enc c] {k : Nat} (hw : Mem w0 L w) (hi : L[i]? = some (own enc c s xs)) (hn : s.nil = false) (hk : k + ys.length ≤ xs.length) :
  ∃ w', (storeCells ⟨s.b, s.o + k * c, none⟩ (flatR enc ys)).run P w = .ok () w' ∧ Mem w0 (L.set i (own enc c s (xs.take k ++ (ys ++ xs.drop (k + ys.length))))) w' := by
 obtain ⟨r, hrow⟩ := hw.get hi
 have hlen := r.len
 have hle := r.ok.le
 obtain ⟨hsp, cs, T, fz, hblk, hsz, hfz, hf0⟩ := hrow hn
 have hmul : (k + ys.length) * c ≤ s.cap * c := Nat.mul_le_mul_right _ (by omega)
 have hfl : (flatR enc ys).length = ys.length * c := flatR_length ys
 have hfit : s.o + k * c + (flatR enc ys).toArray.size ≤ cs.size := by
  rw [List.size_toArray, hfl]; rw [Nat.add_mul] at hmul; omega
 have hone : ∀ v ∈ flatR enc ys, v.oneCell' = true := flatR_one ys
 have hst := run_storeCells_free (P := P) s.b (s.o + k * c) T fz (flatR enc ys) 0 cs w hblk hfz (by simpa using hfit) hone
 have hst' : (storeCells ⟨s.b, s.o + k * c, none⟩ (flatR enc ys)).run P w = .ok () (w.setRow s.b (over cs (s.o + k * c) (flatR enc ys).toArray)) := by
  simpa [over] using hst
 refine ⟨_, hst', ?_⟩
 have hb' : hp (w.setRow s.b (over cs (s.o + k * c) (flatR enc ys).toArray)) s.b = some (.cells (over cs (s.o + k * c) (flatR enc ys).toArray) T fz) := setRow_heap w s.b cs _ T fz hblk
 have hll : (xs.take k ++ (ys ++ xs.drop (k + ys.length))).length = xs.length := by simp only [List.length_append, List.length_take, List.length_drop]; omega
 refine hw.change hi (fun k hk => hk) (fun k hk => ?_) (by simp [World.setRow]) ⟨rfl, rfl, rfl⟩ ⟨rows_of r.ok (by rw [hll]; exact hlen) hb' fun m y hy j hj => ?_, fun _ => ⟨hsp, _, _, _, hb', ?_, by rw [over_size hfit]; exact hfz, hf0⟩⟩
 ·
  exact setRow_other w s.b k _ (fun e => hk ⟨hn, e⟩)
 ·
  rw [cells_over hfit]
  rcases Nat.lt_or_ge m k with h1 | h1
  ·
   have hy' : xs[m]? = some y := by
    rw [List.getElem?_append_left (by rw [List.length_take]; omega), List.getElem?_take, if_pos h1] at hy; exact hy
   rw [if_neg, ← r.row m y hy' j hj]
   ·
    unfold cellH; rw [hblk]
   ·
    have : (m + 1) * c ≤ k * c := Nat.mul_le_mul_right _ (by omega)
    rw [Nat.add_mul] at this
    intro h; have := h.1; omega
  ·
   rcases Nat.lt_or_ge m (k + ys.length) with h2 | h2
   ·
    have hy' : ys[m - k]? = some y := by
     rw [List.getElem?_append_right (by rw [List.length_take]; omega), List.length_take, Nat.min_eq_left (by omega), List.getElem?_append_left (by omega)] at hy; exact hy
    have hg' := flatR_get (enc := enc) ys (m - k) y hy' j hj
    have hk2 : k * c + (m - k) * c = m * c := by rw [← Nat.add_mul]; congr 1; omega
    have hlt : (m - k + 1) * c ≤ ys.length * c := Nat.mul_le_mul_right _ (by omega)
    rw [Nat.add_mul] at hlt
    rw [if_pos ⟨by omega, by rw [List.size_toArray, hfl]; omega⟩, ← hg']
    simp only [List.getElem?_toArray]
    congr 1; omega
   ·
    have hy' : xs[m]? = some y := by
     rw [List.getElem?_append_right (by rw [List.length_take]; omega), List.length_take, Nat.min_eq_left (by omega), List.getElem?_append_right (by omega), List.getElem?_drop] at hy
     rw [← hy]; congr 1; omega
    rw [if_neg, ← r.row m y hy' j hj]
    ·
     unfold cellH; rw [hblk]
    ·
     have : (k + ys.length) * c ≤ m * c := Nat.mul_le_mul_right _ h2
     rw [Nat.add_mul] at this
     intro h; have := h.2; rw [List.size_toArray, hfl] at this; omega
 ·
  rw [over_size hfit]; exact hsz
end
section
variable {P : Program} {N : Fra} {w0 : World} {env : Env} {L : List Ent} {l : List Oper} {Q : Exit → Act → World → Prop} {rest : List Oper} {d : Option Tmp} {ty : TypeId} {ps : String} {af : Array Edge} {gd : Option (Nat × Bool)} {K : Value → List Ent → Prop}
variable {α : Type} {enc : α → Array Value} {c : Nat} {s : Sv} {xs ys : List α}
theorem st_appendIn {t tx e : TypeId} {x y : Operand} {yv : Value} {by' i : Nat} [ht : SlT P t e c by'] [he : Enc enc c] (hx : ev env x = some s.val) (hy : ev env y = some yv) [q : Owns L s enc c xs i]
  (hs : ∀ w, Mem w0 L w → Src P c tx yv ys.length (flatR enc ys) w) (hn : s.nil = false) (hroom : s.len + ys.length ≤ s.cap) (hbd : s.len + ys.length ≤ 140737488355328) {L' : List Ent} [hu : Upd L i (own enc c { s with len := s.len + ys.length } (xs ++ ys)) L']
  (hk : K (Sv.val { s with len := s.len + ys.length }) L') :
  Stp P N w0 env L ⟨d, .call { callee := .builtin .append, args := #[x, y], argTypes := #[t, tx] }, ty, ps, af, gd⟩ K :=
 st_run fun a w ha hw => by
  obtain ⟨w', h1, h4⟩ := append_in (ty := ty) ht hw q.h (hs w hw) hn hroom hbd
  refine ⟨_, w', L', ?_, by rw [← hu.h]; exact h4, hk⟩
  simp [execOp, ha.ev hx, ha.ev hy, resolve, invoke, builtin, h1, Result.andThen]
theorem sq_appendIn {t tx e : TypeId} {x y : Operand} {yv : Value} {by' i : Nat} [ht : SlT P t e c by'] [he : Enc enc c] (hx : ev env x = some s.val) (hy : ev env y = some yv) [q : Owns L s enc c xs i]
  (hs : ∀ w, Mem w0 L w → Src P c tx yv ys.length (flatR enc ys) w) (hn : s.nil = false) (hroom : s.len + ys.length ≤ s.cap) (hbd : s.len + ys.length ≤ 140737488355328) {L' : List Ent} [hu : Upd L i (own enc c { s with len := s.len + ys.length } (xs ++ ys)) L']
  (hk : Sq P N w0 l Q rest (putE env d (Sv.val { s with len := s.len + ys.length })) L') (hd : dstOk N d = true := by rfl) :
  Sq P N w0 l Q (⟨d, .call { callee := .builtin .append, args := #[x, y], argTypes := #[t, tx] }, ty, ps, af, none⟩ :: rest) env L :=
 sq_st rfl hd (st_appendIn hx hy hs hn hroom hbd hk)
theorem st_copyW {D S rm : Sv} {x y : Operand} {tx tys e : TypeId} {i k : Nat} {ys : List α} [he : Enc enc c] (hx : ev env x = some D.val) (hDn : D.nil = false) (hDs : D.sp = none) (hDb : D.b = rm.b) (hDo : D.o = rm.o + k * c) (hy : ev env y = some S.val) [ht : SliceT P tx e c] [q : Owns L rm enc c xs i] [hS : Hd w0 L S enc c ys] (hc : 0 < c) (hn : rm.nil = false) (h0 : 0 < ys.length) (hl : ys.length ≤ D.len) (hk' : k + ys.length ≤ xs.length)
  {L' : List Ent} [hu : Upd L i (own enc c rm (xs.take k ++ (ys ++ xs.drop (k + ys.length)))) L'] (hk : K (.int .i64 ys.length) L') :
  Stp P N w0 env L ⟨d, .call { callee := .builtin .copy, args := #[x, y], argTypes := #[tx, tys] }, ty, ps, af, gd⟩ K :=
 st_run fun a w ha hw => by
  have hs := hS.h w hw
  have hSn := hs.some h0
  have hsl := hs.len
  have hSs := hs.ok.sp (by have := hs.ok.le; omega)
  rw [Sv.val_some hDn, hDs, hDb, hDo] at hx
  rw [Sv.val_some hSn, hSs] at hy
  obtain ⟨w', h1, h2⟩ := row_over (P := P) hw q.h hn hk'
  rw [hu.h] at h2
  refine ⟨_, w', L', ?_, h2, hk⟩
  have hld := run_loadCells_list (P := P) w ⟨S.b, S.o, none⟩ (flatR enc ys) (fun j v hj => by
   obtain ⟨z, hz, hv⟩ := flatR_div hc hj
   rw [Addr.add_none, cell_hp, ← hv, ← hs.row _ z hz (j % c) (Nat.mod_lt _ hc)]
   congr 1
   have := Nat.div_add_mod j c
   rw [Nat.mul_comm] at this; omega)
  rw [flatR_length] at hld
  cases hq : P.info? e with
  | none => have := ht.size; simp [hq] at this
  | some i' =>
   have hi : i'.size = c := by have := ht.size; simpa [hq] using this
   have hmin : Nat.min S.len D.len = ys.length := by rw [hsl]; exact Nat.min_eq_left hl
   have hrun : (Builtin.copy_ #[tx, tys] ty #[.slice (some ⟨rm.b, rm.o + k * c, none⟩) D.len D.cap, .slice (some ⟨S.b, S.o, none⟩) S.len S.cap]).run P w = .ok (goInt ys.length) w' := by
    simp [Builtin.copy_, run_underlying ht.und, Builtin.lenOf, Builtin.firstCells, sizeOf, typeInfo, hq, hi, hmin, hld, h1]
   simp [execOp, ha.ev hx, ha.ev hy, resolve, invoke, builtin, hrun, Result.andThen, goInt]
theorem sq_copyW {D S rm : Sv} {x y : Operand} {tx tys e : TypeId} {i k : Nat} {ys : List α} [he : Enc enc c] (hx : ev env x = some D.val) (hDn : D.nil = false) (hDs : D.sp = none) (hDb : D.b = rm.b) (hDo : D.o = rm.o + k * c) (hy : ev env y = some S.val) [ht : SliceT P tx e c] [q : Owns L rm enc c xs i] [hS : Hd w0 L S enc c ys] (hc : 0 < c) (hn : rm.nil = false) (h0 : 0 < ys.length) (hl : ys.length ≤ D.len) (hk' : k + ys.length ≤ xs.length)
  {L' : List Ent} [hu : Upd L i (own enc c rm (xs.take k ++ (ys ++ xs.drop (k + ys.length)))) L'] (hk : Sq P N w0 l Q rest (putE env d (.int .i64 ys.length)) L') (hd : dstOk N d = true := by rfl) :
  Sq P N w0 l Q (⟨d, .call { callee := .builtin .copy, args := #[x, y], argTypes := #[tx, tys] }, ty, ps, af, none⟩ :: rest) env L :=
 sq_st rfl hd (st_copyW hx hDn hDs hDb hDo hy hc hn h0 hl hk' hk)
end
end Go.Eng

/- Pages, roots, volumes, fibs, as cells. -/
namespace Go.Kb
open Go.Eng
structure Pge where
 kind : Int
 id : Int
 gen : UInt64
 body : Sl UInt8
def pgcells (x : Pge) : Array Value := #[.int .i64 x.kind, .int .i64 x.id, .int .u64 x.gen.toNat, x.body.sv.val]
instance : Enc pgcells 4 := ⟨fun _ => rfl, fun x => by
 simp only [pgcells, List.all_toArray, List.all_cons, List.all_nil, Sv.one, intone, boolone, Bool.and_self]⟩
instance (x : Pge) : SizeIs (pgcells x) 4 := ⟨rfl, Enc.one x⟩
instance (x : Pge) : CellAt (pgcells x) 0 (.int .i64 x.kind) := ⟨rfl⟩
instance (x : Pge) : CellAt (pgcells x) 1 (.int .i64 x.id) := ⟨rfl⟩
instance (x : Pge) : CellAt (pgcells x) 2 (.int .u64 x.gen.toNat) := ⟨rfl⟩
instance (x : Pge) : CellAt (pgcells x) 3 (x.body.sv.val) := ⟨rfl⟩
instance : Deep Pge where
 c := 4
 cells := pgcells
 size := Enc.size
 one := Enc.one
 good h x := Deep.good h x.body
 ent x := Deep.ent x.body
 good_of h x hs := Deep.good_of h x.body hs
 mono w w' x hg hb := Deep.mono w w' x.body hg hb
instance {w0 : World} {L : List Ent} {x : Pge} [q : HdD w0 L x] : HdD w0 L x.body := ⟨fun w hw => (q.h w hw)⟩
instance {w0 : World} {L : List Ent} {kind : Int} {id : Int} {gen : UInt64} {body : Sl UInt8} [q0 : HdD w0 L body] : HdD w0 L (Pge.mk kind id gen body) := ⟨fun w hw => q0.h w hw⟩
def zPge : Pge := ⟨0, 0, 0, ⟨Sv.none, []⟩⟩
structure Rts where
 gen : UInt64
 at_ : Sl Int
def rtcells (x : Rts) : Array Value := #[.int .u64 x.gen.toNat, x.at_.sv.val]
instance : Enc rtcells 2 := ⟨fun _ => rfl, fun x => by
 simp only [rtcells, List.all_toArray, List.all_cons, List.all_nil, Sv.one, intone, boolone, Bool.and_self]⟩
instance (x : Rts) : SizeIs (rtcells x) 2 := ⟨rfl, Enc.one x⟩
instance (x : Rts) : CellAt (rtcells x) 0 (.int .u64 x.gen.toNat) := ⟨rfl⟩
instance (x : Rts) : CellAt (rtcells x) 1 (x.at_.sv.val) := ⟨rfl⟩
instance : Deep Rts where
 c := 2
 cells := rtcells
 size := Enc.size
 one := Enc.one
 good h x := Deep.good h x.at_
 ent x := Deep.ent x.at_
 good_of h x hs := Deep.good_of h x.at_ hs
 mono w w' x hg hb := Deep.mono w w' x.at_ hg hb
instance {w0 : World} {L : List Ent} {x : Rts} [q : HdD w0 L x] : HdD w0 L x.at_ := ⟨fun w hw => (q.h w hw)⟩
instance {w0 : World} {L : List Ent} {gen : UInt64} {at_ : Sl Int} [q0 : HdD w0 L at_] : HdD w0 L (Rts.mk gen at_) := ⟨fun w hw => q0.h w hw⟩
def zRts : Rts := ⟨0, ⟨Sv.none, []⟩⟩
structure Wea where
 live : Int
 used : Int
 worn : Int
 bad : Bool
 deriving DecidableEq
def weacells (x : Wea) : Array Value := #[.int .i64 x.live, .int .i64 x.used, .int .i64 x.worn, .bool x.bad]
instance : Enc weacells 4 := ⟨fun _ => rfl, fun x => by
 simp only [weacells, List.all_toArray, List.all_cons, List.all_nil, Sv.one, intone, boolone, Bool.and_self]⟩
instance (x : Wea) : SizeIs (weacells x) 4 := ⟨rfl, Enc.one x⟩
instance (x : Wea) : CellAt (weacells x) 0 (.int .i64 x.live) := ⟨rfl⟩
instance (x : Wea) : CellAt (weacells x) 1 (.int .i64 x.used) := ⟨rfl⟩
instance (x : Wea) : CellAt (weacells x) 2 (.int .i64 x.worn) := ⟨rfl⟩
instance (x : Wea) : CellAt (weacells x) 3 (.bool x.bad) := ⟨rfl⟩
def zWea : Wea := ⟨0, 0, 0, false⟩
structure Vol where
 chip : Cp
 at_ : Sl Int
 gen : UInt64
 last : Int
def vlcells (x : Vol) : Array Value := #[.int .i64 x.chip.pages, .int .i64 x.chip.size, x.chip.blocks.sv.val, .int .i64 x.chip.ops, .bool x.chip.off, x.chip.faults.sv.val, x.at_.sv.val, .int .u64 x.gen.toNat, .int .i64 x.last]
instance : Enc vlcells 9 := ⟨fun _ => rfl, fun x => by
 simp only [vlcells, List.all_toArray, List.all_cons, List.all_nil, Sv.one, intone, boolone, Bool.and_self]⟩
instance (x : Vol) : SizeIs (vlcells x) 9 := ⟨rfl, Enc.one x⟩
instance (x : Vol) : CellAt (vlcells x) 0 (.int .i64 x.chip.pages) := ⟨rfl⟩
instance (x : Vol) : CellAt (vlcells x) 1 (.int .i64 x.chip.size) := ⟨rfl⟩
instance (x : Vol) : CellAt (vlcells x) 2 (x.chip.blocks.sv.val) := ⟨rfl⟩
instance (x : Vol) : CellAt (vlcells x) 4 (.bool x.chip.off) := ⟨rfl⟩
instance (x : Vol) : CellAt (vlcells x) 6 (x.at_.sv.val) := ⟨rfl⟩
instance (x : Vol) : CellAt (vlcells x) 7 (.int .u64 x.gen.toNat) := ⟨rfl⟩
instance (x : Vol) : CellAt (vlcells x) 8 (.int .i64 x.last) := ⟨rfl⟩
instance (x : Vol) : PartAt (vlcells x) 0 6 (cpcells x.chip) := ⟨rfl, fun j hj => by
 match j, hj with
 | 0, _ => rfl
 | 1, _ => rfl
 | 2, _ => rfl
 | 3, _ => rfl
 | 4, _ => rfl
 | 5, _ => rfl⟩
instance : Deep Vol where
 c := 9
 cells := vlcells
 size := Enc.size
 one := Enc.one
 good h x := Deep.good h x.chip ∧ Deep.good h x.at_
 ent x := .two (Deep.ent x.chip) (Deep.ent x.at_)
 good_of h x hs := ⟨Deep.good_of h x.chip hs.1, Deep.good_of h x.at_ hs.2.1⟩
 mono w w' x hg hb := ⟨Deep.mono w w' x.chip hg.1 hb, Deep.mono w w' x.at_ hg.2 hb⟩
instance {w0 : World} {L : List Ent} {x : Vol} [q : HdD w0 L x] : HdD w0 L x.chip := ⟨fun w hw => (q.h w hw).1⟩
instance {w0 : World} {L : List Ent} {x : Vol} [q : HdD w0 L x] : HdD w0 L x.at_ := ⟨fun w hw => (q.h w hw).2⟩
instance {w0 : World} {L : List Ent} {chip : Cp} {at_ : Sl Int} {gen : UInt64} {last : Int} [q0 : HdD w0 L chip] [q1 : HdD w0 L at_] : HdD w0 L (Vol.mk chip at_ gen last) := ⟨fun w hw => ⟨q0.h w hw, q1.h w hw⟩⟩
def zVol : Vol := ⟨zCp, ⟨Sv.none, []⟩, 0, 0⟩
structure Wtr where
 vol : Vol
 beyond : Bool
def wtcells (x : Wtr) : Array Value := #[.int .i64 x.vol.chip.pages, .int .i64 x.vol.chip.size, x.vol.chip.blocks.sv.val, .int .i64 x.vol.chip.ops, .bool x.vol.chip.off, x.vol.chip.faults.sv.val, x.vol.at_.sv.val, .int .u64 x.vol.gen.toNat, .int .i64 x.vol.last, .bool x.beyond]
instance (x : Wtr) : CellAt (wtcells x) 0 (.int .i64 x.vol.chip.pages) := ⟨rfl⟩
instance (x : Wtr) : CellAt (wtcells x) 1 (.int .i64 x.vol.chip.size) := ⟨rfl⟩
instance (x : Wtr) : CellAt (wtcells x) 2 (x.vol.chip.blocks.sv.val) := ⟨rfl⟩
instance (x : Wtr) : CellAt (wtcells x) 6 (x.vol.at_.sv.val) := ⟨rfl⟩
instance (x : Wtr) : CellAt (wtcells x) 7 (.int .u64 x.vol.gen.toNat) := ⟨rfl⟩
instance (x : Wtr) : CellAt (wtcells x) 8 (.int .i64 x.vol.last) := ⟨rfl⟩
instance (x : Wtr) : CellAt (wtcells x) 9 (.bool x.beyond) := ⟨rfl⟩
instance (x : Wtr) : PartAt (wtcells x) 0 9 (vlcells x.vol) := ⟨rfl, fun j hj => by
 match j, hj with
 | 0, _ => rfl
 | 1, _ => rfl
 | 2, _ => rfl
 | 3, _ => rfl
 | 4, _ => rfl
 | 5, _ => rfl
 | 6, _ => rfl
 | 7, _ => rfl
 | 8, _ => rfl⟩
instance (x : Wtr) : PartAt (wtcells x) 0 6 (cpcells x.vol.chip) := ⟨rfl, fun j hj => by
 match j, hj with
 | 0, _ => rfl
 | 1, _ => rfl
 | 2, _ => rfl
 | 3, _ => rfl
 | 4, _ => rfl
 | 5, _ => rfl⟩
structure Wbk where
 w : Wea
 pages : Int
 deriving DecidableEq
def wbcells (x : Wbk) : Array Value := #[.int .i64 x.w.live, .int .i64 x.w.used, .int .i64 x.w.worn, .bool x.w.bad, .int .i64 x.pages]
instance : Enc wbcells 5 := ⟨fun _ => rfl, fun x => by
 simp only [wbcells, List.all_toArray, List.all_cons, List.all_nil, Sv.one, intone, boolone, Bool.and_self]⟩
instance (x : Wbk) : SizeIs (wbcells x) 5 := ⟨rfl, Enc.one x⟩
instance (x : Wbk) : CellAt (wbcells x) 0 (.int .i64 x.w.live) := ⟨rfl⟩
instance (x : Wbk) : CellAt (wbcells x) 1 (.int .i64 x.w.used) := ⟨rfl⟩
instance (x : Wbk) : CellAt (wbcells x) 2 (.int .i64 x.w.worn) := ⟨rfl⟩
instance (x : Wbk) : CellAt (wbcells x) 3 (.bool x.w.bad) := ⟨rfl⟩
instance (x : Wbk) : CellAt (wbcells x) 4 (.int .i64 x.pages) := ⟨rfl⟩
def zWbk : Wbk := ⟨zWea, 0⟩
end Go.Kb

/- Results of none; a cell that lay there ahead; variables of one cell. -/
namespace Go.Eng
open Go.RowKit
theorem res_none {P : Program} {fn : Func} {N : Fra} {env : Env} {w0 : World} {L : List Ent} (hf : fn.results = #[]) : ∀ a w, Rep N env a → Mem w0 L w → (results fn a.tmps).run P w = .ok (.tuple #[]) w := fun a w _ _ => by
 simp [results, hf]
section
variable {P : Program} {w0 : World} {env : Env}
theorem ry_old {N : Fra} {L : List Ent} {d : Option Tmp} {ty : TypeId} {ps : String} {af : Array Edge} {gd : Option (Nat × Bool)} {t : TypeId} {x : Operand} {p : Addr} {v : Value} [ht : OneT P t] (hx : ev env x = some (.pointer (some p))) (hc : w0.cell? p = some v) : Ry P N w0 env L ⟨d, .load t x, ty, ps, af, gd⟩ v :=
 ry_load_one ht hx fun w hw => (hw.below.cell (by
  unfold World.cell? at hc
  cases ho : w0.heap[p.block]? with
  | none => simp [ho] at hc
  | some o => exact (Array.getElem?_eq_some_iff.1 ho).1)).trans hc
end
/-! Variables of one cell. -/
section
variable {P : Program} {N : Fra} {w0 : World} {env : Env} {L : List Ent} {l : List Oper} {Q : Exit → Act → World → Prop} {rest : List Oper} {d : Option Tmp} {ty : TypeId} {ps : String} {af : Array Edge} {K : Value → List Ent → Prop}
instance CellAt.one {v : Value} : CellAt #[v] 0 v := ⟨rfl⟩
theorem sq_box1 {t : TypeId} {x : Operand} {v : Value} (hc : v.cells = #[v]) (hx : ev env x = some v) (hk : ∀ b, Sq P N w0 l Q rest (putE env d (.pointer (some ⟨b, 0, none⟩))) (blk b #[v] t :: L)) (hd : dstOk N d = true := by rfl) :
  Sq P N w0 l Q (⟨d, .box t x, ty, ps, af, none⟩ :: rest) env L := sq_box hx (by rw [hc]; exact hk) hd
theorem sq_alloc1 {t : TypeId} {z : Value} [hz : ZeroT P t z] (hc : z.cells = #[z]) (hk : ∀ b, Sq P N w0 l Q rest (putE env d (.pointer (some ⟨b, 0, none⟩))) (blk b #[z] t :: L)) (hd : dstOk N d = true := by rfl) :
  Sq P N w0 l Q (⟨d, .alloc t, ty, ps, af, none⟩ :: rest) env L := sq_alloc (z := z) (by rw [hc]; exact hk) hd
theorem sq_store1 {t : TypeId} {x y : Operand} {i b : Nat} {u : Value} {T : TypeId} {v : Value} (hv : v.oneCell' = true) (hx : ev env x = some (.pointer (some ⟨b, 0, none⟩))) (hy : ev env y = some v) [ht : OneT P t] [hh : Has L b #[u] T i] {L' : List Ent} [hu : Upd L i (blk b #[v] T) L'] (hk : Sq P N w0 l Q rest env L') :
  Sq P N w0 l Q (⟨none, .store t x y, ty, ps, af, none⟩ :: rest) env L := sq_store (cs' := #[v]) hx hy (by show 0 < 1; decide) hv rfl hk
end

theorem sq_stU {P : Program} {N : Fra} {w0 : World} {env : Env} {L : List Ent} {l : List Oper} {Q : Exit → Act → World → Prop} {rest : List Oper} {ty : TypeId} {ps : String} {af : Array Edge} {t : TypeId} {x y : Operand} {i k p : Nat} {s : Sv} {xs : List UInt8} {a v : UInt8} [ht : OneT P t] (hx : ev env x = some (.pointer (some ⟨s.b, p, none⟩))) (hy : ev env y = some (.int .u8 v.toNat)) [q : Owns L s benc 1 xs i] (ha : xs[k]? = some a) (hp' : p = s.o + k * 1) {L' : List Ent} [hu : Upd L i (own benc 1 s (xs.set k v)) L'] (hk : Sq P N w0 l Q rest env L') :
  Sq P N w0 l Q (⟨none, .store t x y, ty, ps, af, none⟩ :: rest) env L :=
 sq_storeS (j := 0) (n := 1) (a' := v) ht.size hx hy (q := q) (by omega) ha (by simp [Value.cells, Value.oneCell']) rfl (by omega) (by rfl) hk
end Go.Eng

/- A range over a function: the iterator's contract, and the caller's law, over memory told by entries. -/
namespace Go.Eng
open Go.RowKit

/-! The loop's record, and the block for its rounds' deferred calls. -/

/-! What an iterator promises, whatever the loop's body. -/

/-! The caller. -/
section
variable {P : Program} {N : Fra} {w0 : World} {env : Env} {L : List Ent} {Q : Exit → Act → World → Prop}

/-! The end of a function that holds a range over a function. -/
end

/-! The iterator. -/
section
variable {P : Program} {n : Nat} {w0 : World} {env : Env} {L : List Ent} {Q : Exit → Act → World → Prop} {l : List Oper} {k : Nat} {rest : List Oper}
theorem drop_at {α : Type} {l rest : List α} {k : Nat} {o : α} (h : l.drop k = o :: rest) : l[k]? = some o ∧ l.drop (k + 1) = rest := by
 constructor
 ·
  have := congrArg (·[0]?) h; simpa using this
 ·
  have := congrArg (List.drop 1) h; simpa [List.drop_drop, Nat.add_comm] using this

end

end Go.Eng

/- Maps that the call itself has made. -/
namespace Go.Eng
open Go.RowKit

def omap (P : Program) (k : TypeId) {α β : Type} (kenc : α → Value) (venc : β → Value) (b : Nat) (f : α → Option β) : Ent :=
  ⟨fun i => i = b, fun h => ∃ (es : Array MapEntry) (clock : Nat) (m : List (α × β)), h b = some (.map es clock) ∧ es.toList.map (fun e => (e.key, e.val)) = m.map (fun p => (kenc p.1, venc p.2)) ∧
    (∀ p ∈ m, ∃ l, keyOf P k (kenc p.1) = some l) ∧ (m.map Prod.fst).Nodup ∧ (∀ x v, f x = some v ↔ (x, v) ∈ m),
   fun h h' e st => by rw [e b rfl]; exact st⟩
class MapT (P : Program) (t : TypeId) (k e : outParam TypeId) : Prop where
  und : P.underlying t = some (.map k e)
class KeyT (P : Program) (k : TypeId) : Prop where
  K : Maps.Keyed P k
class InjE {α : Type} (kenc : α → Value) : Prop where
  inj : ∀ {a b : α}, kenc a = kenc b → a = b
class HasM (P : Program) (L : List Ent) (b : Nat) {α β : outParam Type} (k : TypeId) (kenc : outParam (α → Value)) (venc : outParam (β → Value)) (f : outParam (α → Option β)) (i : outParam Nat) : Prop where
  h : L[i]? = some (omap P k kenc venc b f)
instance (priority := high) HasM.here {P : Program} {L : List Ent} {b : Nat} {α β : Type} {k : TypeId} {kenc : α → Value} {venc : β → Value} {f : α → Option β} : HasM P (omap P k kenc venc b f :: L) b k kenc venc f 0 := ⟨rfl⟩
instance HasM.there {P : Program} {L : List Ent} {e : Ent} {b : Nat} {α β : Type} {k : TypeId} {kenc : α → Value} {venc : β → Value} {f : α → Option β} {i : Nat} [q : HasM P L b k kenc venc f i] : HasM P (e :: L) b k kenc venc f (i + 1) := ⟨by simpa using q.h⟩

theorem find_map {P : Program} {k : TypeId} {α β : Type} {kenc : α → Value} {venc : β → Value} {f : α → Option β} [K : KeyT P k] [I : InjE kenc] {es : Array MapEntry} {m : List (α × β)} (h1 : es.toList.map (fun e => (e.key, e.val)) = m.map (fun p => (kenc p.1, venc p.2)))
    (h2 : ∀ p ∈ m, ∃ l, keyOf P k (kenc p.1) = some l) (h3 : ∀ x v, f x = some v ↔ (x, v) ∈ m) {x : α} (hx : ∃ l, keyOf P k (kenc x) = some l) (w : World) :
    ((Instr.findKey k (kenc x) es.toList).run P w = .ok none w ∧ f x = none ∧ ∀ v, (x, v) ∉ m) ∨ ∃ (j : Nat) (v : β), (Instr.findKey k (kenc x) es.toList).run P w = .ok (some (j, venc v)) w ∧ m[j]? = some (x, v) ∧ f x = some v ∧ (es[j]?).map (·.key) = some (kenc x) := by
  have hat : ∀ j : Nat, (es.toList[j]?).map (fun e => (e.key, e.val)) = (m[j]?).map (fun p => (kenc p.1, venc p.2)) := fun j => by rw [← List.getElem?_map, ← List.getElem?_map, h1]
  have hall : ∀ e ∈ es.toList, ∃ l, keyOf P k e.key = some l := fun e he => by
    obtain ⟨j, hj, rfl⟩ := List.getElem_of_mem he
    have := hat j
    rw [List.getElem?_eq_getElem hj] at this
    cases hm : m[j]? with
    | none => rw [hm] at this; cases this
    | some p =>
      rw [hm] at this
      simp only [Option.map_some, Option.some.injEq, Prod.mk.injEq] at this
      rw [this.1]; exact h2 p (List.mem_of_getElem? hm)
  obtain ⟨lx, hlx⟩ := hx
  rcases K.K.find w hlx es.toList hall with ⟨hr, hn⟩ | ⟨j, e, hr, hj, hk⟩
  · have hno : ∀ v, (x, v) ∉ m := fun v hv => by
      obtain ⟨j, hj, hje⟩ := List.getElem_of_mem hv
      have := hat j
      rw [List.getElem?_eq_getElem hj, hje] at this
      cases he : es.toList[j]? with
      | none => rw [he] at this; cases this
      | some e =>
        rw [he] at this
        simp only [Option.map_some, Option.some.injEq, Prod.mk.injEq] at this
        exact hn e (List.mem_of_getElem? he) this.1
    refine .inl ⟨hr, ?_, hno⟩
    cases hf : f x with
    | none => rfl
    | some v => exact absurd ((h3 x v).1 hf) (hno v)
  · have := hat j
    rw [hj] at this
    cases hm : m[j]? with
    | none => rw [hm] at this; cases this
    | some p =>
      rw [hm] at this
      simp only [Option.map_some, Option.some.injEq, Prod.mk.injEq] at this
      have hp : p.1 = x := I.inj (this.1.symm.trans hk)
      refine .inr ⟨j, p.2, by rw [hr, this.2], by rw [hm, ← hp], (h3 x p.2).2 (by rw [← hp]; exact List.mem_of_getElem? hm), ?_⟩
      have hj' : es[j]? = some e := by simpa using hj
      rw [hj', Option.map_some, hk]

section
variable {P : Program} {N : Fra} {w0 : World} {env : Env} {L : List Ent} {d : Option Tmp} {ty : TypeId} {ps : String} {af : Array Edge} {gd : Option (Nat × Bool)} {α β : Type} {kenc : α → Value} {venc : β → Value} {f : α → Option β}
theorem run_getObj_map {w : World} {b : Nat} {es : Array MapEntry} {clock : Nat} (h : w.heap[b]? = some (.map es clock)) : (getObj b).run P w = .ok (.map es clock) w := by simp [getObj, Sem.run, h]
theorem run_setObj_map {w : World} {b : Nat} {es : Array MapEntry} {clock : Nat} (o : Obj) (h : w.heap[b]? = some (.map es clock)) : (setObj b o).run P w = .ok () (w.putObj b o) := by simp [setObj, Sem.run, h, World.putObj]
theorem ry_lookupOk {t k e : TypeId} {m x : Operand} {b i : Nat} {z : β} {v : α} [ht : MapT P t k e] [K : KeyT P k] [I : InjE kenc] [hz : ZeroT P e (venc z)] (hm : ev env m = some (.map (some b))) (hx : ev env x = some (kenc v)) [q : HasM P L b k kenc venc f i] (hv : ∃ l, keyOf P k (kenc v) = some l) :
    Ry P N w0 env L ⟨d, .lookup t m x true, ty, ps, af, gd⟩ (.tuple #[venc ((f v).getD z), .bool (f v).isSome]) := fun a w ha hw => by
  obtain ⟨es, clock, ml, h0, h1, h2, _, h3⟩ := hw.get q.h
  obtain ⟨l, hl⟩ := hv
  have hc := K.K.check w es.isEmpty hl
  simp only [execOp, ha.ev hm, ha.ev hx, Instr.lookup, Sem.run_bind, run_underlying ht.und, Result.andThen, run_getObj_map h0, Sem.run_pure, hc]
  rcases find_map (P := P) (k := k) h1 h2 h3 ⟨l, hl⟩ w with ⟨hr, hf, _⟩ | ⟨j, u, hr, _, hf, _⟩
  · simp only [hr, hf, Option.getD_none, run_zeroValue' w hz, Sem.run_bind, Result.andThen, Sem.run_pure]; rfl
  · simp only [hr, hf, Option.getD_some, Sem.run_pure]; rfl
end
section
variable {P : Program} {N : Fra} {w0 : World} {env : Env} {L : List Ent} {l : List Oper} {Q : Exit → Act → World → Prop} {rest : List Oper} {d : Option Tmp} {ty : TypeId} {ps : String} {af : Array Edge} {α β : Type} {kenc : α → Value} {venc : β → Value} {f : α → Option β}
theorem Mem.newMap {w : World} (P : Program) (k : TypeId) (kenc : α → Value) (venc : β → Value) (h : Mem w0 L w) : Mem w0 (omap P k kenc venc w.heap.size (fun _ => none) :: L) (w.alloc (.map #[] 0)) := by
  refine h.call (E := [omap P k kenc venc w.heap.size (fun _ => none)]) ⟨(Below.refl _ _).alloc (Nat.le_refl _) _, fun e he => ?_, fun e he j hj => ?_, by simp⟩
  · obtain rfl : e = omap P k kenc venc w.heap.size (fun _ => none) := by simpa using he
    exact ⟨#[], 0, [], Below.heap_new w _, rfl, by simp, by simp, by simp⟩
  · obtain rfl : e = omap P k kenc venc w.heap.size (fun _ => none) := by simpa using he
    have : j = w.heap.size := hj
    subst this; simp
theorem sq_makeMap {t k e : TypeId} (kenc : α → Value) (venc : β → Value) {r : Operand} {kk : IntKind} {n : Int} [ht : MapT P t k e] (hr : ev env r = some (.int kk n)) (hk : ∀ b, Sq P N w0 l Q rest (putE env d (.map (some b))) (omap P k kenc venc b (fun _ => none) :: L)) (hd : dstOk N d = true := by rfl) :
    Sq P N w0 l Q (⟨d, .makeMap t (some r), ty, ps, af, none⟩ :: rest) env L :=
  sq_run rfl hd fun a w ha hw => ⟨_, _, _, by
    simp only [execOp, Option.map_some, ha.ev hr, Instr.makeMap, Sem.run_bind, run_underlying ht.und, Result.andThen, Sem.run_pure, asInt, asIntOf, newObj, Sem.run]
    rfl, hw.newMap P k kenc venc, hk _⟩
theorem sq_makeMap0 {t k e : TypeId} (kenc : α → Value) (venc : β → Value) [ht : MapT P t k e] (hk : ∀ b, Sq P N w0 l Q rest (putE env d (.map (some b))) (omap P k kenc venc b (fun _ => none) :: L)) (hd : dstOk N d = true := by rfl) :
    Sq P N w0 l Q (⟨d, .makeMap t none, ty, ps, af, none⟩ :: rest) env L :=
  sq_run rfl hd fun a w ha hw => ⟨_, _, _, by
    simp only [execOp, Option.map_none, Instr.makeMap, Sem.run_bind, Result.andThen, Sem.run_pure, newObj, Sem.run]
    rfl, hw.newMap P k kenc venc, hk _⟩
theorem run_mapUp {t k e : TypeId} {m x y : Operand} {b i : Nat} {v : α} {u : β} [DecidableEq α] [ht : MapT P t k e] [K : KeyT P k] [I : InjE kenc] (hm : ev env m = some (.map (some b))) (hx : ev env x = some (kenc v)) (hy : ev env y = some (venc u)) [q : HasM P L b k kenc venc f i] (hv : ∃ l, keyOf P k (kenc v) = some l)
    {L' : List Ent} [hu : Upd L i (omap P k kenc venc b (fun z => if z = v then some u else f z)) L'] {a : Act} {w : World} (ha : Rep N env a) (hw : Mem w0 L w) :
    ∃ w', (execOp a.eval ⟨none, .mapUpdate t m x y, ty, ps, af, none⟩).run P w = .ok .skip w' ∧ Mem w0 L' w' := by
  obtain ⟨es, clock, ml, h0, h1, h2, hnd, h3⟩ := hw.get q.h
  obtain ⟨lk, hl⟩ := hv
  have hc := K.K.check w false hl
  have hst := K.K.stays w hl
  have step : ∀ o : Obj, (omap P k kenc venc b (fun z => if z = v then some u else f z)).sat (fun j => (w.putObj b o).heap[j]?) → Mem w0 L' (w.putObj b o) := fun o ho => by
    rw [← hu.h]
    exact hw.change q.h (fun j hj => hj) (fun j hj => World.putObj_heap_other (fun e => hj e)) World.putObj_size ⟨rfl, rfl, rfl⟩ ho
  have hlt : b < w.heap.size := (Array.getElem?_eq_some_iff.1 h0).1
  rcases find_map (P := P) (k := k) h1 h2 h3 ⟨lk, hl⟩ w with ⟨hr, hf, hno⟩ | ⟨j, u0, hr, hj, hf, hkey⟩
  · refine ⟨w.putObj b (.map (es.push { key := kenc v, val := venc u, born := clock }) (clock + 1)), ?_, step _ ⟨_, _, ml ++ [(v, u)], World.putObj_heap_same hlt, ?_, ?_, ?_, ?_⟩⟩
    · simp only [execOp, ha.ev hm, ha.ev hx, ha.ev hy, Instr.mapUpdate, Sem.run_bind, run_underlying ht.und, Result.andThen, run_getObj_map h0, hc, hr, run_setObj_map _ h0, Sem.run_pure]
    · simp [h1]
    · intro p hp
      rcases List.mem_append.1 hp with hp | hp
      · exact h2 p hp
      · obtain rfl : p = (v, u) := by simpa using hp
        exact ⟨lk, hl⟩
    · rw [List.map_append, List.nodup_append]
      refine ⟨hnd, by simp, fun x1 hx1 y1 hy1 e1 => ?_⟩
      obtain rfl : y1 = v := by simpa using hy1
      subst e1
      obtain ⟨p, hp, rfl⟩ := List.mem_map.1 hx1
      exact hno p.2 hp
    · intro x' v'
      show (if x' = v then some u else f x') = some v' ↔ _
      by_cases e : x' = v
      · subst e; rw [if_pos rfl]
        constructor
        · intro h; cases h; simp
        · intro h
          rcases List.mem_append.1 h with h | h
          · exact absurd h (hno v')
          · simp at h; rw [h]
      · rw [if_neg e, h3 x' v']; simp [e]
  · have hjl : j < ml.length := (List.getElem?_eq_some_iff.1 hj).1
    refine ⟨w.putObj b (.map (es.modify j fun e => { e with key := kenc v, val := venc u }) clock), ?_, step _ ⟨_, _, ml.set j (v, u), World.putObj_heap_same hlt, ?_, ?_, ?_, ?_⟩⟩
    · simp only [execOp, ha.ev hm, ha.ev hx, ha.ev hy, Instr.mapUpdate, Sem.run_bind, run_underlying ht.und, Result.andThen, run_getObj_map h0, hc, hr, hkey, Option.getD_some, hst, run_setObj_map _ h0, Sem.run_pure]
    · refine List.ext_getElem? fun n => ?_
      have := congrArg (·[n]?) h1
      simp only [List.getElem?_map] at this ⊢
      rw [List.getElem?_set]
      by_cases e : j = n
      · subst e
        rw [if_pos rfl, if_pos hjl]
        rw [hj] at this
        cases he : es.toList[j]? with
        | none => rw [he] at this; cases this
        | some e0 =>
          have he' : es[j]? = some e0 := by simpa using he
          simp [Array.getElem?_modify, he']
      · rw [if_neg e, ← this]
        simp [Array.getElem?_modify, e]
    · intro p hp
      rcases List.mem_or_eq_of_mem_set hp with hp | rfl
      · exact h2 p hp
      · exact ⟨lk, hl⟩
    · rw [List.map_set]
      have : (ml.map Prod.fst)[j]? = some v := by rw [List.getElem?_map, hj]; rfl
      rw [show (ml.map Prod.fst).set j (v, u).1 = ml.map Prod.fst from by
        refine List.ext_getElem? fun n => ?_
        rw [List.getElem?_set]
        by_cases e : j = n
        · subst e; rw [if_pos rfl, if_pos (by simpa using hjl), this]
        · rw [if_neg e]]
      exact hnd
    · intro x' v'
      have huniq : ∀ n p, ml[n]? = some p → p.1 = v → n = j := fun n p hn hp => by
        have a1 : (ml.map Prod.fst)[n]? = some v := by rw [List.getElem?_map, hn, Option.map_some, hp]
        have a2 : (ml.map Prod.fst)[j]? = some v := by rw [List.getElem?_map, hj]; rfl
        exact (List.getElem?_inj (by simpa using (List.getElem?_eq_some_iff.1 hn).1) hnd).1 (a1.trans a2.symm)
      show (if x' = v then some u else f x') = some v' ↔ _
      by_cases e : x' = v
      · subst e; rw [if_pos rfl]
        constructor
        · intro h; cases h
          exact List.mem_of_getElem? (i := j) (by rw [List.getElem?_set, if_pos rfl, if_pos hjl])
        · intro h
          obtain ⟨n, hn⟩ := List.mem_iff_getElem?.1 h
          rw [List.getElem?_set] at hn
          by_cases en : j = n
          · rw [if_pos en, if_pos hjl] at hn; simp only [Option.some.injEq, Prod.mk.injEq, true_and] at hn; rw [hn]
          · rw [if_neg en] at hn; exact absurd (huniq n _ hn rfl).symm en
      · rw [if_neg e, h3 x' v']
        constructor
        · intro h
          obtain ⟨n, hn⟩ := List.mem_iff_getElem?.1 h
          refine List.mem_of_getElem? (i := n) ?_
          rw [List.getElem?_set, if_neg, hn]
          rintro rfl
          rw [hj] at hn; simp only [Option.some.injEq, Prod.mk.injEq] at hn; exact e hn.1.symm
        · intro h
          rcases List.mem_or_eq_of_mem_set h with h | h
          · exact h
          · simp only [Prod.mk.injEq] at h; exact absurd h.1 e
theorem sq_mapUpdate {t k e : TypeId} {m x y : Operand} {b i : Nat} {v : α} {u : β} [DecidableEq α] [ht : MapT P t k e] [K : KeyT P k] [I : InjE kenc] (hm : ev env m = some (.map (some b))) (hx : ev env x = some (kenc v)) (hy : ev env y = some (venc u)) [q : HasM P L b k kenc venc f i] (hv : ∃ l, keyOf P k (kenc v) = some l)
    {L' : List Ent} [hu : Upd L i (omap P k kenc venc b (fun z => if z = v then some u else f z)) L'] (hk : Sq P N w0 l Q rest env L') :
    Sq P N w0 l Q (⟨none, .mapUpdate t m x y, ty, ps, af, none⟩ :: rest) env L :=
  sq_run_skip rfl rfl fun a w ha hw => by
    obtain ⟨w', h1, h2⟩ := run_mapUp (t := t) (k := k) (e := e) (ty := ty) (ps := ps) (af := af) hm hx hy hv (L' := L') ha hw
    exact ⟨w', L', h1, h2, hk⟩
end
end Go.Eng

/- Stores into a trie's nodes, as steps of a line; a call's memory, two entries of it in front. -/
namespace Go.Eng
open Go.Kb Go.RowKit
theorem mem_one {w0 w : World} {L R : List Ent} {e : Ent} {i : Nat} (q : L[i]? = some e) (d : L.eraseIdx i = R) (h : Mem w0 L w) : Mem w0 (e :: R) w := by
 have := h.perm (perm_erase q); rwa [d] at this
theorem mem_two {w0 w : World} {L R1 R2 : List Ent} {e1 e2 : Ent} {i j : Nat} (h1 : L[i]? = some e1) (d1 : L.eraseIdx i = R1) (h2 : R1[j]? = some e2) (d2 : R1.eraseIdx j = R2) (h : Mem w0 L w) : Mem w0 (e1 :: e2 :: R2) w := by
 subst d1; subst d2
 exact h.perm ((perm_erase h1).trans ((perm_erase h2).cons _))
instance (priority := low) Keep.drop {L L' : List Ent} {e : Ent} [k : Keep L L'] : Keep (e :: L) L' := ⟨by
 obtain ⟨R, hR⟩ := k.h
 exact ⟨e :: R, (hR.cons e).trans List.perm_middle.symm⟩⟩
section
variable {P : Program} {N : Fra} {w0 : World} {env : Env} {L : List Ent} {Q : Exit → Act → World → Prop} {d : Option Tmp} {ty : TypeId} {ps : String} {af : Array Edge} {gd : Option (Nat × Bool)} {K : Value → List Ent → Prop}
theorem Ry.to {o : Oper} {v v' : Value} (h : Ry P N w0 env L o v) (e : v = v') : Ry P N w0 env L o v' := e ▸ h
theorem yl_fcall {f : FuncId} {x : Operand} {caps : Array Value} {xs : List Operand} {ts : Array TypeId} {vs : List Value} {v : Value} [hf : IsFn P f] (hx : ev env x = some (.func (.func f) #[] caps)) (hxs : evl env xs = some vs)
  (hc : ∀ w, Mem w0 L w → Calls P f (vs ++ caps.toList).toArray w fun e w' => e = .returned v ∧ Mem w [] w') :
  Yl P N w0 env L ⟨d, .call { callee := .value x, args := xs.toArray, argTypes := ts }, ty, ps, af, gd⟩ v := fun a ha w hw => by
 unfold Oper.quietAt
 obtain ⟨fn, h1, h2, h3⟩ := hf.fn
 have h2' : ¬ fn.body = none := fun e => by simp [e] at h2
 have h3' : ¬ fn.name = "runtime.NumGoroutine" := by simpa using h3
 have e : (execOp a.eval ⟨d, .call { callee := .value x, args := xs.toArray, argTypes := ts }, ty, ps, af, gd⟩).run P w = .ok (.enter f (vs ++ caps.toList).toArray) w := by
  have hm := ha.evl hxs
  simp [execOp, resolve, ha.ev hx, Deferred.ofValue, invoke, callFunc, h1, h2', h3', Result.andThen, ← hm]
 rw [e]
 exact ⟨rfl, hc w hw⟩
theorem ry_mkfunc {f : Fn} {xs : List Operand} {vs : List Value} (hx : evl env xs = some vs) : Ry P N w0 env L ⟨d, .makeFunc f #[] xs.toArray, ty, ps, af, gd⟩ (.func f #[] vs.toArray) := fun a w ha _ => by
 have hm := ha.evl hx
 simp [execOp, Instr.makeFunc, Result.andThen, ← hm]
variable {s : Sv} {xs : List Nd} {a : Nd}
end
end Go.Eng

/- What a chip may be, walked. -/
namespace Go.Proofs.YtaipiecplldinaaGreat
open Go.Eng Go.Kb
open Go.RowKit
instance : ZeroT Tryz.prog 94 (.agg (ftcells zFt)) := ⟨by kernel_rfl⟩
instance : ZeroT Tryz.prog 48 (.agg (bkcells zBk)) := ⟨by kernel_rfl⟩
instance : ZeroT Tryz.prog 25 (.agg (cpcells zCp)) := ⟨by kernel_rfl⟩
instance : ZeroT Tryz.prog 5 (.int .u8 0) := ⟨by kernel_rfl⟩
instance : ZeroT Tryz.prog 38 (.slice none 0 0) := ⟨by kernel_rfl⟩
theorem csound_c (w : World) (b : Int) (n : Int) (s : Int)  : Calls Tryz.prog 65 #[.int .i64 b, .int .i64 n, .int .i64 s] w fun e w' => e = .returned (.bool (soundF b n s)) ∧ Mem w [] w' := by
 refine calls_of (args := [_, _, _]) Tryz.func65 rfl Tryz.ntmps65 rfl ?_
 change Cw _ _ _ _ _ [(0, .int .i64 b), (1, .int .i64 n), (2, .int .i64 s)] []
 refine cw_seq ?_
 refine cw_region ?_
 refine sq_r (ry_assign rfl) ?_
 refine sq_nil ?_
 refine ex_then ?_
 refine cw_seq ?_
 refine cw_region ?_
 refine sq_r (ry_move rfl) ?_
 refine sq_r (ry_int rfl rfl rfl) ?_
 refine sq_r (ry_move rfl) ?_
 refine sq_gt rfl rfl rfl (fun hg => (Ry.yl (ry_move rfl))) ?_
 refine sq_gt rfl rfl rfl (fun hg => (Ry.yl (ry_int (ev_c hg rfl) rfl rfl))) ?_
 refine sq_r (ry_and rfl rfl rfl) ?_
 refine sq_r (ry_move rfl) ?_
 refine sq_gt rfl rfl rfl (fun hg => (Ry.yl (ry_move rfl))) ?_
 refine sq_gt rfl rfl rfl (fun hg => (Ry.yl (ry_int (ev_c hg rfl) rfl rfl))) ?_
 refine sq_r (ry_and rfl rfl rfl) ?_
 refine sq_r (ry_move rfl) ?_
 refine sq_gt rfl rfl rfl (fun hg => (Ry.yl (ry_move rfl))) ?_
 refine sq_gt rfl rfl rfl (fun hg => (Ry.yl (ry_int (ev_c hg rfl) rfl rfl))) ?_
 refine sq_r (ry_and rfl rfl rfl) ?_
 refine sq_r (ry_move rfl) ?_
 refine sq_gt rfl rfl rfl (fun hg => (Ry.yl (ry_move rfl))) ?_
 refine sq_gt rfl rfl rfl (fun hg => (Ry.yl (ry_int (ev_c hg rfl) rfl rfl))) ?_
 refine sq_r (ry_and rfl rfl rfl) ?_
 refine sq_r (ry_move rfl) ?_
 refine sq_gt rfl rfl rfl (fun hg => (Ry.yl (ry_move rfl))) ?_
 refine sq_gt rfl rfl rfl (fun hg => (Ry.yl (ry_int (ev_c hg rfl) rfl rfl))) ?_
 refine sq_r (ry_and rfl rfl rfl) ?_
 refine sq_r (ry_assign rfl) ?_
 refine sq_nil ?_
 refine ex_then ?_
 refine cw_ret ?_
 refine ex_ret (.inl rfl) (res_1 rfl (rv_tmp rfl)) (fun w1 hw => ?_)
 exact ⟨congrArg (fun b => Ending.returned (Value.bool b)) (rfl), Keep.mem hw⟩
instance csound_i {w0 : World} {L : List Ent} {b : Int} {n : Int} {s : Int}  : FnQ Tryz.prog 65 w0 L [.int .i64 b, .int .i64 n, .int .i64 s] (.bool (soundF b n s)) (True) := ⟨fun hp w hw => csound_c w b n s ⟩
theorem cright_c (w : World) (c : Cp) (hc : Deep.good (hp w) c) : Calls Tryz.prog 68 #[.agg (cpcells c)] w fun e w' => e = .returned (.bool (chipOk (cv c))) ∧ Mem w [] w' := by
 have ghc : GvD w c := ⟨hc⟩
 have hbl := bvs_length c.blocks.xs
 have hok : chipOk (cv c) = true ↔ soundF c.blocks.xs.length c.pages c.size = true ∧ 0 ≤ c.ops ∧ c.ops ≤ ctop ∧ c.faults.xs.length ≤ 64 ∧ ∀ b ∈ bvs c.blocks.xs, bkOk c.pages c.size b = true := by rw [chipOk_iff]; simp only [cv, hbl]
 have hct : ctop = 1099511627776 := rfl
 refine calls_of (args := [_]) Tryz.func68 rfl Tryz.ntmps68 rfl ?_
 change Cw _ _ _ _ _ [(0, .agg (cpcells c))] []
 refine cw_seq ?_
 refine cw_region ?_
 refine sq_boxA rfl fun b1 => ?_
 refine sq_r (ry_assign rfl) ?_
 refine sq_nil ?_
 refine ex_then ?_
 refine cw_seq ?_
 refine cw_seq ?_
 refine cw_region ?_
 refine sq_r (ry_field (o' := 2) rfl rfl) ?_
 refine sq_r (ry_cellc rfl) ?_
 refine sq_r (ry_lenH rfl) ?_
 refine sq_r (ry_field (o' := 0) rfl rfl) ?_
 refine sq_r (ry_cellc rfl) ?_
 refine sq_r (ry_field (o' := 1) rfl rfl) ?_
 refine sq_r (ry_cellc rfl) ?_
 refine sq_y (yl_callC rfl trivial) ?_
 refine sq_r (ry_not rfl) ?_
 refine sq_r (ry_move rfl) ?_
 refine sq_gf rfl rfl rfl (fun hg => (Ry.yl (ry_field (o' := 3) rfl rfl))) ?_
 refine sq_gf rfl rfl rfl (fun hg => (Ry.yl (ry_cellc (ev_c hg rfl)))) ?_
 refine sq_gf rfl rfl rfl (fun hg => (Ry.yl (ry_int (ev_c hg rfl) rfl rfl))) ?_
 refine sq_r (ry_or rfl rfl rfl) ?_
 refine sq_r (ry_move rfl) ?_
 refine sq_gf rfl rfl rfl (fun hg => (Ry.yl (ry_field (o' := 3) rfl rfl))) ?_
 refine sq_gf rfl rfl rfl (fun hg => (Ry.yl (ry_cellc (ev_c hg rfl)))) ?_
 refine sq_gf rfl rfl rfl (fun hg => (Ry.yl (ry_int (ev_c hg rfl) rfl rfl))) ?_
 refine sq_r (ry_or rfl rfl rfl) ?_
 refine sq_r (ry_move rfl) ?_
 refine sq_gf rfl rfl rfl (fun hg => (Ry.yl (ry_field (o' := 5) rfl rfl))) ?_
 refine sq_gf rfl rfl rfl (fun hg => (Ry.yl (ry_cellc (ev_c hg rfl)))) ?_
 refine sq_gf rfl rfl rfl (fun hg => (Ry.yl (ry_lenH (ev_c hg rfl)))) ?_
 refine sq_gf rfl rfl rfl (fun hg => (Ry.yl (ry_int (ev_c hg rfl) rfl rfl))) ?_
 refine sq_r (ry_or rfl rfl rfl) ?_
 refine sq_nil ?_
 refine ex_then ?_
 refine cw_cond rfl (fun h0 => ?_) (fun h0 => ?_)
 ·
  try simp only [Z0, Z1, Z2, Z3, Z4, Z5, Z6, Z7, Z8, Z9] at h0
  have hz : chipOk (cv c) = false := by
   cases hk : chipOk (cv c) with
   | false => rfl
   | true =>
    have g := hok.1 hk
    rw [g.1] at h0
    simp only [Bool.true_eq_false, false_or] at h0
    omega
  refine cw_seq ?_
  refine cw_region ?_
  refine sq_r (ry_assign rfl) ?_
  refine sq_nil ?_
  refine ex_then ?_
  refine cw_ret ?_
  refine ex_pass_ret ?_
  refine ex_ret (.inl rfl) (res_1 rfl (rv_tmp rfl)) (fun w1 hw => ?_)
  exact ⟨congrArg (fun b => Ending.returned (Value.bool b)) (hz.symm), Keep.mem hw⟩
 ·
  try simp only [Z0, Z1, Z2, Z3, Z4, Z5, Z6, Z7, Z8, Z9] at h0
  have g0 : soundF c.blocks.xs.length c.pages c.size = true ∧ 0 ≤ c.ops ∧ c.ops ≤ ctop ∧ c.faults.xs.length ≤ 64 := by
   cases hk : soundF c.blocks.xs.length c.pages c.size with
   | false => rw [hk] at h0; simp at h0
   | true => rw [hk] at h0; simp only [Bool.true_eq_false, not_false_eq_true, true_and] at h0; exact ⟨rfl, by omega, by omega, by omega⟩
  have gs := soundF_iff.1 g0.1
  refine cw_skip ?_
  refine ex_then ?_
  refine cw_seq ?_
  refine cw_seq ?_
  refine cw_region ?_
  refine sq_r (ry_field (o' := 2) rfl rfl) ?_
  refine sq_r (ry_cellc rfl) ?_
  refine sq_r (ry_lenH rfl) ?_
  refine sq_r (ry_move rfl) ?_
  refine sq_nil ?_
  refine ex_then ?_
  refine cw_block ?_
  refine cw_loop (X := Nat) (fun zz => [(35, .int .i64 (zz : Nat)), (1, .pointer (some ⟨b1, 0, none⟩)), (33, c.blocks.sv.val), (34, .int .i64 (c.blocks.xs.length : Nat))]) (fun zz => [blk b1 (cpcells c) 25]) (fun zz => zz ≤ c.blocks.xs.length ∧ ∀ j b, j < zz → (bvs c.blocks.xs)[j]? = Option.some b → bkOk c.pages c.size b = true) (fun zz => c.blocks.xs.length - zz) 0 ⟨Nat.zero_le _, fun j b hj => by first | omega | (simp only []; omega)⟩ (Sub.cons rfl (Sub.cons rfl (Sub.cons rfl (Sub.cons rfl (Sub.nil _))))) (fun w hw => Keep.mem hw) ?_
  rintro i ⟨hi1, hi2⟩
  refine cw_seq ?_
  refine cw_region ?_
  refine sq_r (ry_int rfl rfl rfl) ?_
  refine sq_nil ?_
  refine ex_then ?_
  refine cw_seq ?_
  refine cw_cond rfl (fun h1 => ?_) (fun h1 => ?_)
  ·
   try simp only [Z0, Z1, Z2, Z3, Z4, Z5, Z6, Z7, Z8, Z9] at h1
   refine cw_skip ?_
   refine ex_then ?_
   refine cw_seq ?_
   refine cw_block ?_
   refine cw_seq ?_
   refine cw_region ?_
   obtain ⟨x, hx⟩ := get_some (xs := c.blocks.xs) (i := i) (by omega)
   refine sq_r (ry_idxH rfl rfl i rfl (by omega)) ?_
   refine sq_r (ry_elemH rfl i hx rfl) ?_
   have mb38 : Mb x c.blocks := ⟨List.mem_of_getElem? hx⟩
   refine sq_allocA fun b4 => ?_
   refine sq_storeW rfl rfl ?_
   refine sq_nil ?_
   refine ex_then ?_
   refine cw_seq ?_
   refine cw_seq ?_
   refine cw_region ?_
   refine sq_r (ry_field (o' := 0) rfl rfl) ?_
   refine sq_r (ry_cellc rfl) ?_
   refine sq_r (ry_lenH rfl) ?_
   refine sq_r (ry_field (o' := 0) rfl rfl) ?_
   refine sq_r (ry_cellc rfl) ?_
   refine sq_r (ry_int rfl rfl rfl) ?_
   refine sq_r (ry_move rfl) ?_
   refine sq_gf rfl rfl rfl (fun hg => (Ry.yl (ry_field (o' := 1) rfl rfl))) ?_
   refine sq_gf rfl rfl rfl (fun hg => (Ry.yl (ry_cellc (ev_c hg rfl)))) ?_
   refine sq_gf rfl rfl rfl (fun hg => (Ry.yl (ry_int (ev_c hg rfl) rfl rfl))) ?_
   refine sq_r (ry_or rfl rfl rfl) ?_
   refine sq_r (ry_move rfl) ?_
   refine sq_gf rfl rfl rfl (fun hg => (Ry.yl (ry_field (o' := 1) rfl rfl))) ?_
   refine sq_gf rfl rfl rfl (fun hg => (Ry.yl (ry_cellc (ev_c hg rfl)))) ?_
   refine sq_gf rfl rfl rfl (fun hg => (Ry.yl (ry_field (o' := 0) rfl rfl))) ?_
   refine sq_gf rfl rfl rfl (fun hg => (Ry.yl (ry_cellc (ev_c hg rfl)))) ?_
   refine sq_gf rfl rfl rfl (fun hg => (Ry.yl (ry_int (ev_c hg rfl) (ev_c hg rfl) rfl))) ?_
   refine sq_r (ry_or rfl rfl rfl) ?_
   refine sq_r (ry_move rfl) ?_
   refine sq_gf rfl rfl rfl (fun hg => (Ry.yl (ry_field (o' := 2) rfl rfl))) ?_
   refine sq_gf rfl rfl rfl (fun hg => (Ry.yl (ry_cellc (ev_c hg rfl)))) ?_
   refine sq_gf rfl rfl rfl (fun hg => (Ry.yl (ry_int (ev_c hg rfl) rfl rfl))) ?_
   refine sq_r (ry_or rfl rfl rfl) ?_
   refine sq_r (ry_move rfl) ?_
   refine sq_gf rfl rfl rfl (fun hg => (Ry.yl (ry_field (o' := 2) rfl rfl))) ?_
   refine sq_gf rfl rfl rfl (fun hg => (Ry.yl (ry_cellc (ev_c hg rfl)))) ?_
   refine sq_gf rfl rfl rfl (fun hg => (Ry.yl (ry_int (ev_c hg rfl) rfl rfl))) ?_
   refine sq_r (ry_or rfl rfl rfl) ?_
   refine sq_nil ?_
   refine ex_then ?_
   refine cw_cond rfl (fun h2 => ?_) (fun h2 => ?_)
   ·
    try simp only [Z0, Z1, Z2, Z3, Z4, Z5, Z6, Z7, Z8, Z9] at h2
    have hz : chipOk (cv c) = false := by
     cases hk : chipOk (cv c) with
     | false => rfl
     | true =>
      have g := bkOk_iff.1 ((hok.1 hk).2.2.2.2 (bv x) (List.mem_of_getElem? (bvs_get hx)))
      simp only [bv, txs_length] at g
      omega
    refine cw_seq ?_
    refine cw_region ?_
    refine sq_r (ry_assign rfl) ?_
    refine sq_nil ?_
    refine ex_then ?_
    refine cw_ret ?_
    refine ex_pass_ret ?_
    refine ex_block_ret ?_
    refine ex_pass_ret ?_
    refine ex_pass_ret ?_
    refine ex_block_ret ?_
    refine ex_pass_ret ?_
    refine ex_ret (.inl rfl) (res_1 rfl (rv_tmp rfl)) (fun w1 hw => ?_)
    exact ⟨congrArg (fun b => Ending.returned (Value.bool b)) (hz.symm), Keep.mem hw⟩
   ·
    try simp only [Z0, Z1, Z2, Z3, Z4, Z5, Z6, Z7, Z8, Z9] at h2
    refine cw_skip ?_
    refine ex_then ?_
    refine cw_seq ?_
    refine cw_region ?_
    refine sq_r (ry_field (o' := 0) rfl rfl) ?_
    refine sq_r (ry_cellc rfl) ?_
    refine sq_r (ry_lenH rfl) ?_
    refine sq_r (ry_move rfl) ?_
    refine sq_nil ?_
    refine ex_then ?_
    refine cw_block ?_
    refine cw_loop (X := Nat) (fun zz => [(70, .int .i64 (zz : Nat)), (1, .pointer (some ⟨b1, 0, none⟩)), (33, c.blocks.sv.val), (34, .int .i64 (c.blocks.xs.length : Nat)), (35, .int .i64 (i : Nat)), (68, x.pages.sv.val), (69, .int .i64 (x.pages.xs.length : Nat))]) (fun zz => [blk b4 (bkcells x) 48, blk b1 (cpcells c) 25]) (fun zz => zz ≤ x.pages.xs.length ∧ ∀ k y, k < zz → (bv x).pages[k]? = Option.some y → (y.length : Int) = c.size) (fun zz => x.pages.xs.length - zz) 0 ⟨Nat.zero_le _, fun k y hk => by first | omega | (simp only []; omega)⟩ (Sub.cons rfl (Sub.cons rfl (Sub.cons rfl (Sub.cons rfl (Sub.cons rfl (Sub.cons rfl (Sub.cons rfl (Sub.nil _)))))))) (fun w hw => Keep.mem hw) ?_
    rintro j ⟨hj1, hj2⟩
    refine cw_seq ?_
    refine cw_region ?_
    refine sq_r (ry_int rfl rfl rfl) ?_
    refine sq_nil ?_
    refine ex_then ?_
    refine cw_seq ?_
    refine cw_cond rfl (fun h3 => ?_) (fun h3 => ?_)
    ·
     try simp only [Z0, Z1, Z2, Z3, Z4, Z5, Z6, Z7, Z8, Z9] at h3
     refine cw_skip ?_
     refine ex_then ?_
     refine cw_seq ?_
     refine cw_block ?_
     refine cw_seq ?_
     refine cw_region ?_
     obtain ⟨y, hy⟩ := get_some (xs := x.pages.xs) (i := j) (by omega)
     refine sq_r (ry_idxH rfl rfl j rfl (by omega)) ?_
     refine sq_r (ry_elemcH (j := 0) rfl j hy rfl (by decide)) ?_
     have mb73 : Mb y _ := ⟨List.mem_of_getElem? hy⟩
     refine sq_r (ry_assign rfl) ?_
     refine sq_nil ?_
     refine ex_then ?_
     refine cw_seq ?_
     refine cw_region ?_
     refine sq_r (ry_move rfl) ?_
     refine sq_r (ry_lenH rfl) ?_
     refine sq_r (ry_field (o' := 1) rfl rfl) ?_
     refine sq_r (ry_cellc rfl) ?_
     refine sq_r (ry_int rfl rfl rfl) ?_
     refine sq_nil ?_
     refine ex_then ?_
     refine cw_cond rfl (fun h4 => ?_) (fun h4 => ?_)
     ·
      try simp only [Z0, Z1, Z2, Z3, Z4, Z5, Z6, Z7, Z8, Z9] at h4
      have hz : chipOk (cv c) = false := by
       cases hk : chipOk (cv c) with
       | false => rfl
       | true =>
        have g := (bkOk_iff.1 ((hok.1 hk).2.2.2.2 (bv x) (List.mem_of_getElem? (bvs_get hx)))).2.2.2.2.2 y.xs (List.mem_of_getElem? (txs_get hy))
        omega
      refine cw_seq ?_
      refine cw_region ?_
      refine sq_r (ry_assign rfl) ?_
      refine sq_nil ?_
      refine ex_then ?_
      refine cw_ret ?_
      refine ex_block_ret ?_
      refine ex_pass_ret ?_
      refine ex_pass_ret ?_
      refine ex_block_ret ?_
      refine ex_block_ret ?_
      refine ex_pass_ret ?_
      refine ex_pass_ret ?_
      refine ex_block_ret ?_
      refine ex_pass_ret ?_
      refine ex_ret (.inl rfl) (res_1 rfl (rv_tmp rfl)) (fun w1 hw => ?_)
      exact ⟨congrArg (fun b => Ending.returned (Value.bool b)) (hz.symm), Keep.mem hw⟩
     ·
      try simp only [Z0, Z1, Z2, Z3, Z4, Z5, Z6, Z7, Z8, Z9] at h4
      refine cw_skip ?_
      refine ex_block ?_
      refine ex_then ?_
      refine cw_region ?_
      refine sq_r (ry_add rfl rfl (by omega)) ?_
      refine sq_r (ry_move rfl) ?_
      refine sq_nil ?_
      exact ex_again (x := (j)) (j + 1) ⟨by first | omega | (simp only []; omega), fun k z hk hz => if e : k = j then (by subst e; rw [show (bv x).pages = txs x.pages.xs from rfl, txs_get hy] at hz; cases hz; omega) else hj2 k z (by first | omega | (simp only []; omega)) hz⟩ (by first | omega | (simp only []; omega)) (Sub.cons rfl (Sub.cons rfl (Sub.cons rfl (Sub.cons rfl (Sub.cons rfl (Sub.cons rfl (Sub.cons rfl (Sub.nil _)))))))) (fun w hw => Keep.mem hw)
    ·
     try simp only [Z0, Z1, Z2, Z3, Z4, Z5, Z6, Z7, Z8, Z9] at h3
     have hxo : bkOk c.pages c.size (bv x) = true := bkOk_iff.2 ⟨by simp only [bv, txs_length]; omega, by simp only [bv]; omega, by simp only [bv]; omega, by simp only [bv]; omega, by simp only [bv]; omega, fun y hy => by
      obtain ⟨k, hk⟩ := List.getElem?_of_mem hy
      exact hj2 k y (by have h := (List.getElem?_eq_some_iff.1 hk).1; simp only [bv, txs_length] at h; omega) hk⟩
     refine cw_exit ?_
     refine ex_pass_exit ?_
     refine ex_pass_exit ?_
     refine ex_block_hit ?_
     refine ex_block ?_
     refine ex_then ?_
     refine cw_region ?_
     refine sq_r (ry_add rfl rfl (by omega)) ?_
     refine sq_r (ry_move rfl) ?_
     refine sq_nil ?_
     exact ex_again (x := (i)) (i + 1) ⟨by first | omega | (simp only []; omega), fun j b hj hb => if e : j = i then (by subst e; rw [bvs_get hx] at hb; cases hb; exact hxo) else hi2 j b (by first | omega | (simp only []; omega)) hb⟩ (by first | omega | (simp only []; omega)) (Sub.cons rfl (Sub.cons rfl (Sub.cons rfl (Sub.cons rfl (Sub.nil _))))) (fun w hw => Keep.mem hw)
  ·
   try simp only [Z0, Z1, Z2, Z3, Z4, Z5, Z6, Z7, Z8, Z9] at h1
   obtain rfl : i = c.blocks.xs.length := by omega
   have hz : chipOk (cv c) = true := hok.2 ⟨g0.1, g0.2.1, g0.2.2.1, g0.2.2.2, fun b hb => by
    obtain ⟨j, hj⟩ := List.getElem?_of_mem hb
    exact hi2 j b (by have := (List.getElem?_eq_some_iff.1 hj).1; omega) hj⟩
   refine cw_exit ?_
   refine ex_pass_exit ?_
   refine ex_pass_exit ?_
   refine ex_block_hit ?_
   refine ex_then ?_
   refine cw_seq ?_
   refine cw_region ?_
   refine sq_r (ry_assign rfl) ?_
   refine sq_nil ?_
   refine ex_then ?_
   refine cw_ret ?_
   refine ex_ret (.inl rfl) (res_1 rfl (rv_tmp rfl)) (fun w1 hw => ?_)
   exact ⟨congrArg (fun b => Ending.returned (Value.bool b)) (hz.symm), Keep.mem hw⟩
instance cright_i {w0 : World} {L : List Ent} {c : Cp} [hc : HdD w0 L c] : FnQ Tryz.prog 68 w0 L [.agg (cpcells c)] (.bool (chipOk (cv c))) (True) := ⟨fun hp w hw => cright_c w c (hc.h w hw)⟩

end Go.Proofs.YtaipiecplldinaaGreat

/- Pages in a room of their own: shut, opened; bags made longer. -/
namespace Go.Eng
theorem Mem.bagSnoc {w0 w : World} {L : List Ent} {e : Ent} {es : List Ent} (h : Mem w0 (e :: Ent.all es :: L) w) : Mem w0 (Ent.all (es ++ [e]) :: L) w := by
 have h1 : Mem w0 (Ent.all (e :: es) :: L) w := Mem.bagPush h
 rw [Mem.all_iff] at h1 ⊢
 exact h1.perm ((List.perm_append_singleton e es).symm.append_right L)
theorem Mem.recast {w0 w : World} {L : List Ent} {e e' : Ent} (hf : ∀ k, e'.fp k → e.fp k) (hs : (e.sat fun k => w.heap[k]?) → e'.sat fun k => w.heap[k]?) (h : Mem w0 (e :: L) w) : Mem w0 (e' :: L) w := by
 have hd := List.pairwise_cons.1 h.dis
 refine ⟨h.below, fun x he => ?_, fun x he k hk => ?_, List.pairwise_cons.2 ⟨fun y hy k hk => hd.1 y hy k (hf k hk), hd.2⟩⟩
 ·
  rcases List.mem_cons.1 he with rfl | he
  ·
   exact hs (h.sat e (by simp))
  ·
   exact h.sat x (by simp [he])
 ·
  rcases List.mem_cons.1 he with rfl | he
  ·
   exact h.dom e (by simp) k (hf k hk)
  ·
   exact h.dom x (by simp [he]) k hk
end Go.Eng
namespace Go.Kb
open Go.Eng
theorem pg_shut {w0 w : World} {L : List Ent} {s rm : Sv} {l : List (List UInt8)} {xs : List (Sl UInt8)} (hx : xs = wins rm 0 l) (hn : rm.nil = false) (h : Mem w0 (own (scells (τ := UInt8)) 1 s xs :: own benc 1 rm l.flatten :: L) w) : Mem w0 (pgE ⟨s, xs⟩ :: L) w := by
 have ht : txs xs = l := by rw [hx, wins_txs]
 have h1 := h.perm (List.Perm.swap _ _ _)
 have h2 : Mem w0 (roomE ⟨s, xs⟩ :: own (scells (τ := UInt8)) 1 s xs :: L) w := Mem.recast (fun k hk => by
  obtain ⟨x, hx', rfl⟩ := hk
  exact ⟨hn, wins_b rm 0 l x (hx ▸ hx')⟩) (fun hs => .inr ⟨rm, hn, by simp only [ht]; exact hx, by simp only [ht]; exact hs⟩) h1
 exact Mem.two_iff.2 (h2.perm (List.Perm.swap _ _ _))
theorem pg_nil {w0 w : World} {L : List Ent} {s : Sv} (h : Mem w0 (own (scells (τ := UInt8)) 1 s [] :: L) w) : Mem w0 (pgE ⟨s, []⟩ :: L) w := by
 refine Mem.two_iff.2 (Mem.perm (Mem.recast (e := .emp) (e' := roomE ⟨s, []⟩) (fun k hk => ?_) (fun _ => .inl rfl) (Mem.emp_iff.2 h)) (List.Perm.swap _ _ _))
 obtain ⟨x, hx, _⟩ := hk
 cases hx
theorem pg_open {w0 w : World} {L : List Ent} {a : Sl (Sl UInt8)} (hne : a.xs ≠ []) (h : Mem w0 (pgE a :: L) w) : ∃ rm : Sv, (rm.nil = false ∧ rm.sp = none ∧ a.xs = wins rm 0 (txs a.xs)) ∧ Mem w0 (own (scells (τ := UInt8)) 1 a.sv a.xs :: own benc 1 rm (txs a.xs).flatten :: L) w := by
 have h1 := Mem.two_iff.1 h
 have hr := h1.sat (roomE a) (by simp)
 rcases hr with hr | ⟨rm, g1, g2, g3⟩
 ·
  exact absurd hr hne
 ·
  refine ⟨rm, ⟨g1, (g3.2 g1).1, g2⟩, ?_⟩
  have h2 := h1.perm (List.Perm.swap _ _ _)
  obtain ⟨x, l, hxl⟩ := List.exists_cons_of_ne_nil hne
  have hm : x ∈ a.xs := by rw [hxl]; simp
  have hb : x.sv.b = rm.b := wins_b rm 0 _ x (g2 ▸ hm)
  exact (Mem.recast (e := roomE a) (e' := own benc 1 rm (txs a.xs).flatten) (fun k hk => ⟨x, hm, by rw [hb]; exact hk.2⟩) (fun _ => g3) h2).perm (List.Perm.swap _ _ _)
/-! A room's windows, told anew. -/
theorem flat_set : ∀ {l : List (List UInt8)} {i : Nat} {q r : List UInt8}, l[i]? = some q → r.length = q.length → (l.set i r).flatten = l.flatten.take (l.take i).flatten.length ++ (r ++ l.flatten.drop ((l.take i).flatten.length + r.length))
 | y :: l, 0, q, r, h, hr => by
  obtain rfl : y = q := by simpa using h
  simp [hr]
 | y :: l, i + 1, q, r, h, hr => by
  have := flat_set (l := l) (i := i) (q := q) (r := r) (by simpa using h) hr
  simp only [List.set_cons_succ, List.flatten_cons, this, List.take_succ_cons, List.length_append]
  rw [List.take_length_add_append, Nat.add_assoc, List.drop_length_add_append, List.append_assoc]
theorem wins_get {rm : Sv} : ∀ {o : Nat} {l : List (List UInt8)} {i : Nat} {q : List UInt8}, l[i]? = some q → (wins rm o l)[i]? = some ⟨win rm (o + (l.take i).flatten.length) (o + (l.take i).flatten.length + q.length), q⟩
 | o, y :: l, 0, q, h => by
  obtain rfl : y = q := by simpa using h
  simp [wins]
 | o, y :: l, i + 1, q, h => by
  have := wins_get (rm := rm) (o := o + y.length) (l := l) (i := i) (q := q) (by simpa using h)
  simp only [wins, List.getElem?_cons_succ, this, List.take_succ_cons, List.flatten_cons, List.length_append, Nat.add_assoc]
/-! Sums of pages. -/
def smallP (l : List (List UInt8)) : Prop := l.length ≤ 1000000 ∧ l.flatten.length ≤ 1000000
theorem flat_take {l : List (List UInt8)} {i : Nat} {q : List UInt8} (h : l[i]? = some q) : (l.take (i + 1)).flatten.length = (l.take i).flatten.length + q.length := by
 rw [List.take_add_one, h]; simp
theorem flat_le (l : List (List UInt8)) (i : Nat) : (l.take i).flatten.length ≤ l.flatten.length := by
 have : l.flatten = (l.take i).flatten ++ (l.drop i).flatten := by rw [← List.flatten_append, List.take_append_drop]
 rw [this, List.length_append]; omega
theorem wins_step {rm : Sv} {l : List (List UInt8)} {n i : Nat} {r q : List UInt8} (hn : n = l.length) (hr : r = (l.take i).flatten) (h : l[i]? = some q) : (wins rm 0 (l.take i) ++ List.replicate (n - i) (⟨Sv.none, []⟩ : Sl UInt8)).set i ⟨win rm r.length (r.length + q.length), q⟩ = wins rm 0 (l.take (i + 1)) ++ List.replicate (n - (i + 1)) (⟨Sv.none, []⟩ : Sl UInt8) := by
 have hi := (List.getElem?_eq_some_iff.1 h).1
 have hl : (wins rm 0 (l.take i)).length = i := by rw [wins_length, List.length_take]; omega
 rw [List.set_append_right _ _ (by omega), hl, Nat.sub_self, List.take_add_one, h, show n - i = n - (i + 1) + 1 by omega, List.replicate_succ, List.set_cons_zero]
 simp only [Option.toList_some]
 rw [wins_snoc, hr, Nat.zero_add, List.append_assoc, List.singleton_append]
/-! A chip's all, let go of. -/
theorem frzAll {w0 w : World} {L : List Ent} (d : Cp) (h : Mem w0 (own bkcells 4 d.blocks.sv d.blocks.xs :: Ent.all (d.blocks.xs.map fun b : Bk => pgE b.pages) :: own ftcells 4 d.faults.sv d.faults.xs :: L) w) : Mem w0 (fz d :: L) w :=
 frzC ((frzFt (a := d.faults) ((frzB h).perm (List.Perm.swap _ _ _))).perm (List.Perm.swap _ _ _))
theorem own_same {α : Type} {enc : α → Array Value} {c : Nat} {s : Sv} {xs ys : List α} {w0 w : World} {L : List Ent} (e : xs.map enc = ys.map enc) (h : Mem w0 (own enc c s xs :: L) w) : Mem w0 (own enc c s ys :: L) w :=
 Mem.recast (e := own enc c s xs) (fun _ hk => hk) (fun hs => ⟨⟨hs.1.ok, by have := congrArg List.length e; simp only [List.length_map] at this; rw [← this]; exact hs.1.len, fun i y hy j hj => by
  have h1 : (xs.map enc)[i]? = (ys.map enc)[i]? := by rw [e]
  rw [List.getElem?_map, List.getElem?_map, hy] at h1
  cases hx : xs[i]? with
  | none => rw [hx] at h1; cases h1
  | some x =>
   rw [hx] at h1
   have h2 : enc x = enc y := by simpa using h1
   have := hs.1.row i x hx j hj
   rw [h2] at this
   exact this⟩, hs.2⟩) h
theorem blk_shut {w0 w : World} {L : List Ent} {s sp rm : Sv} {xs : List Bk} {i : Nat} {B B' : Bk} {ps : List (Sl UInt8)} {l : List (List UInt8)} (hi : i < xs.length) (hp : ps.map (fun x => x.sv) = (wins rm 0 l).map (fun x => x.sv)) (hn : rm.nil = false) (hc : bkcells B = bkcells B') (hB : B'.pages = ⟨sp, wins rm 0 l⟩)
  (h : Mem w0 (own (scells (τ := UInt8)) 1 sp ps :: own benc 1 rm l.flatten :: own bkcells 4 s (xs.set i B) :: Ent.all ((xs.eraseIdx i).map fun b : Bk => pgE b.pages) :: L) w) : Mem w0 (own bkcells 4 s (xs.set i B') :: Ent.all ((xs.set i B').map fun b : Bk => pgE b.pages) :: L) w := by
 have h1 : Mem w0 (own (scells (τ := UInt8)) 1 sp (wins rm 0 l) :: own benc 1 rm l.flatten :: own bkcells 4 s (xs.set i B) :: Ent.all ((xs.eraseIdx i).map fun b : Bk => pgE b.pages) :: L) w := own_same (by
  have := congrArg (List.map fun v : Sv => (#[v.val] : Array Value)) hp
  rw [List.map_map, List.map_map] at this
  exact this) h
 have h2 := pg_shut (xs := wins rm 0 l) rfl hn h1
 rw [← hB] at h2
 have h3 := own_same (ys := xs.set i B') (by rw [List.map_set, List.map_set, hc]) (h2.perm (List.Perm.swap _ _ _))
 have h4 : Mem w0 (pgE B'.pages :: Ent.all (((xs.set i B').eraseIdx i).map fun b : Bk => pgE b.pages) :: own bkcells 4 s (xs.set i B') :: L) w := by
  rw [List.eraseIdx_set_eq]
  exact h3.perm ((List.Perm.swap _ _ _).trans (List.Perm.cons _ (List.Perm.swap _ _ _)))
 have h5 := (Mem.pick (f := fun b : Bk => pgE b.pages) (xs := xs.set i B') (i := i) (x := B') (by rw [List.getElem?_set_self hi])).2 h4
 exact h5.perm (List.Perm.swap _ _ _)
theorem blk_open {w0 w : World} {L : List Ent} {s : Sv} {xs : List Bk} {i : Nat} {B : Bk} (hB : xs[i]? = some B) (hne : B.pages.xs ≠ []) (h : Mem w0 (own bkcells 4 s xs :: Ent.all (xs.map fun b : Bk => pgE b.pages) :: L) w) :
  ∃ rm : Sv, (rm.nil = false ∧ rm.sp = none ∧ B.pages.xs = wins rm 0 (txs B.pages.xs)) ∧ Mem w0 (own (scells (τ := UInt8)) 1 B.pages.sv B.pages.xs :: own benc 1 rm (txs B.pages.xs).flatten :: own bkcells 4 s xs :: Ent.all ((xs.eraseIdx i).map fun b : Bk => pgE b.pages) :: L) w := by
 have h1 := (Mem.pick (f := fun b : Bk => pgE b.pages) hB).1 (h.perm (List.Perm.swap _ _ _))
 obtain ⟨rm, hr, h2⟩ := pg_open hne h1
 refine ⟨rm, hr, h2.perm (List.Perm.cons _ (List.Perm.cons _ (List.Perm.swap _ _ _)))⟩
end Go.Kb
namespace Go.Eng
section
variable {P : Program} {N : Fra} {w0 : World} {env : Env} {L : List Ent} {d : Option Tmp} {ty : TypeId} {ps : String} {af : Array Edge} {gd : Option (Nat × Bool)} {x y : Operand} {t u : TypeId}
theorem ry_or8b {a b : UInt8} (hx : ev env x = some (.int .u8 a.toNat)) (hy : ev env y = some (.int .u8 b.toNat)) :
  Ry P N w0 env L ⟨d, .binOp .or t x y u, ty, ps, af, gd⟩ (.int .u8 (a ||| b).toNat) := by
 have ha := a.toNat_lt; have hb := b.toNat_lt
 rw [UInt8.toNat_or]
 exact ry_bor hx hy rfl rfl (by simp only [nb]; omega) (by simp only [nb]; omega)
theorem xor255 : ∀ n, n < 256 → (255 ^^^ n : Nat) = 255 - n := by decide +kernel
theorem ry_xor8 {p q : Nat} (hp : p < 2 ^ nb .u8) (hq : q < 2 ^ nb .u8) : Op.intBits .xor .u8 (p : Int) (q : Int) = (pure (.int .u8 ((p ^^^ q : Nat) : Int)) : Sem Value) := by
 simp only [Op.intBits, ofInt_nat, BitVec.toNat_xor, BitVec.toNat_ofNat, Nat.mod_eq_of_lt (lt_bits hp), Nat.mod_eq_of_lt (lt_bits hq)]
 rw [wrap_nat (Nat.xor_lt_two_pow hp hq)]
theorem ry_not8 {a : UInt8} (hx : ev env x = some (.int .u8 a.toNat)) :
  Ry P N w0 env L ⟨d, .unOp .xor t x, ty, ps, af, gd⟩ (.int .u8 (~~~a).toNat) := fun aa w ha _ => by
 have e : (Op.intBits .xor .u8 255 (a.toNat : Int)) = (pure (.int .u8 ((~~~a).toNat : Int)) : Sem Value) := by
  have h3 := a.toNat_lt
  have h4 : (~~~a).toNat = 255 - a.toNat := UInt8.toNat_not a
  have h5 : (255 ^^^ a.toNat : Nat) = 255 - a.toNat := xor255 a.toNat h3
  have hp : (255 : Nat) < 2 ^ nb .u8 := by decide
  have hq : a.toNat < 2 ^ nb .u8 := h3
  have hx := ry_xor8 hp hq
  rw [h5] at hx
  rw [h4]
  exact hx
 simp only [execOp, ha.ev hx, Op.unary, Sem.run_bind, Result.andThen]
 rw [show (if IntKind.u8.signed = true then (-1 : Int) else IntKind.u8.max) = 255 by decide, e]
 rfl
end
end Go.Eng
namespace Go.Eng
open Go.RowKit
section
variable {P : Program} {N : Fra} {w0 : World} {env : Env} {L : List Ent} {l : List Oper} {Q : Exit → Act → World → Prop} {rest : List Oper} {d : Option Tmp} {ty : TypeId} {ps : String} {af : Array Edge} {gd : Option (Nat × Bool)} {K : Value → List Ent → Prop}
variable {α : Type} {enc : α → Array Value} {c : Nat}
theorem list_set_id {β : Type} {l : List β} {i : Nat} {z : β} (h : l[i]? = some z) : l.set i z = l := by
 obtain ⟨hi, rfl⟩ := List.getElem?_eq_some_iff.1 h
 exact List.set_getElem_self hi
theorem st_copyZ {D S : Sv} {x y : Operand} {tx tys e : TypeId} (hx : ev env x = some D.val) (hy : ev env y = some S.val) [ht : SliceT P tx e c] [hS : Hd w0 L S enc c []] (hk : K (.int .i64 0) L) :
  Stp P N w0 env L ⟨d, .call { callee := .builtin .copy, args := #[x, y], argTypes := #[tx, tys] }, ty, ps, af, gd⟩ K :=
 st_run fun a w ha hw => by
  have hs := hS.h w hw
  have hsl : S.len = 0 := hs.len
  obtain ⟨ad, len, cap, e1⟩ := S.ex
  have el : len = S.len := by
   cases hn : S.nil with
   | true => rw [Sv.val_nil hn] at e1; have := hs.ok.nil hn; cases e1; omega
   | false => rw [Sv.val_some hn] at e1; cases e1; rfl
  obtain ⟨ad2, len2, cap2, e2⟩ := D.ex
  refine ⟨_, w, L, ?_, hw, hk⟩
  cases hq : P.info? e with
  | none => have := ht.size; simp [hq] at this
  | some i' =>
   rw [e1] at hy
   rw [e2] at hx
   have hl0 : len = 0 := by omega
   have hrun : (Builtin.copy_ #[tx, tys] ty #[.slice ad2 len2 cap2, .slice ad len cap]).run P w = .ok (goInt 0) w := by
    have hld : ∀ v : Addr, (loadCells v 0).run P w = .ok #[] w := fun v => by
     have := run_loadCells_list (P := P) w v [] (fun j v hj => by simp at hj)
     simpa using this
    have hst : ∀ v : Addr, (storeCells v []).run P w = .ok () w := fun v => rfl
    cases ad2 <;> cases ad <;> simp [Builtin.copy_, run_underlying ht.und, Builtin.lenOf, Builtin.firstCells, sizeOf, typeInfo, hq, hl0, hld, hst]
   simp [execOp, ha.ev hx, ha.ev hy, resolve, invoke, builtin, hrun, Result.andThen, goInt]
theorem st_copyV {D S rm : Sv} {x y : Operand} {tx tys e : TypeId} {i k : Nat} {xs ys : List α} [he : Enc enc c] (hx : ev env x = some D.val) (hDn : D.nil = false) (hDs : D.sp = none) (hDb : D.b = rm.b) (hDo : D.o = rm.o + k * c) (hy : ev env y = some S.val) [ht : SliceT P tx e c] [q : Owns L rm enc c xs i] [hS : Hd w0 L S enc c ys] (hc : 0 < c) (hn : rm.nil = false) (hl : ys.length ≤ D.len) (hk' : k + ys.length ≤ xs.length)
  {L' : List Ent} [hu : Upd L i (own enc c rm (xs.take k ++ (ys ++ xs.drop (k + ys.length)))) L'] (hk : K (.int .i64 ys.length) L') :
  Stp P N w0 env L ⟨d, .call { callee := .builtin .copy, args := #[x, y], argTypes := #[tx, tys] }, ty, ps, af, gd⟩ K := by
 by_cases h0 : ys = []
 ·
  subst h0
  have e1 : xs.take k ++ ([] ++ xs.drop (k + ([] : List α).length)) = xs := by simp
  have e2 : L' = L := by
   rw [← hu.h, e1]
   exact list_set_id q.h
  exact st_copyZ (c := c) (enc := enc) hx hy (by rw [e2] at hk; exact hk)
 ·
  exact st_copyW hx hDn hDs hDb hDo hy hc hn (List.length_pos_iff.2 h0) hl hk' hk
end
end Go.Eng

/- Pages filled and copied. -/
namespace Go.Proofs.YtaipiecplldinaaGreat
open Go.Eng Go.Kb
open Go.RowKit
theorem fill_step {xs : List UInt8} {k i : Nat} (h : k + i < xs.length) : (xs.take k ++ (List.replicate i 255 ++ xs.drop (k + i))).set (k + i) 255 = xs.take k ++ (List.replicate (i + 1) 255 ++ xs.drop (k + (i + 1))) := by
 rw [List.set_append_right _ _ (by rw [List.length_take]; omega), List.length_take, Nat.min_eq_left (by omega), Nat.add_sub_cancel_left, List.set_append_right _ _ (by simp), List.length_replicate, Nat.sub_self, List.drop_eq_getElem_cons h, List.set_cons_zero, List.replicate_succ', List.append_assoc, List.singleton_append, Nat.add_assoc]
theorem cfill_c (w0 w : World) (L : List Ent) (rm : Sv) (k : Nat) (n : Nat) (cap : Nat) (xs : List UInt8)  (hw : Mem w0 (own benc 1 rm xs :: L) w) (hpre : k + n ≤ xs.length ∧ n ≤ 1000000) : Calls Tryz.prog 66 #[.slice (some ⟨rm.b, rm.o + k, none⟩) n cap] w fun e w' => ∃ zz : Unit, e = .returned (.tuple #[]) ∧ (True) ∧ Mem w0 (own benc 1 rm (xs.take k ++ (List.replicate n 255 ++ xs.drop (k + n))) :: L) w' := by
 obtain ⟨hp1, hp2⟩ := hpre
 refine calls_in (args := [_]) Tryz.func66 rfl Tryz.ntmps66 rfl hw ?_
 change Cw _ _ _ _ _ [(0, .slice (some ⟨rm.b, rm.o + k, none⟩) n cap)] (own benc 1 rm xs :: L)
 refine cw_seq ?_
 refine cw_region ?_
 refine sq_r (ry_move rfl) ?_
 refine sq_r (ry_len_slice rfl) ?_
 refine sq_r (ry_move rfl) ?_
 refine sq_nil ?_
 refine ex_then ?_
 refine cw_block ?_
 refine cw_loop (X := Nat × List UInt8) (fun zz => [(5, .int .i64 (zz.1 : Nat)), (0, .slice (some ⟨rm.b, rm.o + k, none⟩) n cap), (4, .int .i64 (n : Nat))]) (fun zz => own benc 1 rm zz.2 :: L) (fun zz => zz.1 ≤ n ∧ zz.2 = xs.take k ++ (List.replicate zz.1 255 ++ xs.drop (k + zz.1))) (fun zz => n - zz.1) (0, xs) ⟨Nat.zero_le _, by simp⟩ (Sub.cons rfl (Sub.cons rfl (Sub.cons rfl (Sub.nil _)))) (fun w hw => Keep.mem hw) ?_
 rintro ⟨i, zs⟩ ⟨hi1, hi2⟩
 dsimp only
 simp only at hi1 hi2
 have hzl : zs.length = xs.length := by rw [hi2]; simp only [List.length_append, List.length_take, List.length_replicate, List.length_drop]; omega
 refine cw_seq ?_
 refine cw_region ?_
 refine sq_r (ry_int rfl rfl rfl) ?_
 refine sq_nil ?_
 refine ex_then ?_
 refine cw_seq ?_
 refine cw_cond rfl (fun h0 => ?_) (fun h0 => ?_)
 ·
  try simp only [Z0, Z1, Z2, Z3, Z4, Z5, Z6, Z7, Z8, Z9] at h0
  refine cw_skip ?_
  refine ex_then ?_
  refine cw_seq ?_
  refine cw_block ?_
  refine cw_seq ?_
  refine cw_region ?_
  refine sq_r (ry_move rfl) ?_
  refine sq_r (ry_assign rfl) ?_
  refine sq_nil ?_
  refine ex_then ?_
  refine cw_region ?_
  refine sq_r (ry_move rfl) ?_
  refine sq_r (ry_move rfl) ?_
  refine sq_r (ry_idxS (b := rm.b) (o := rm.o + k) (len := n) (cap := cap) rfl rfl (by omega) (by omega)) ?_
  obtain ⟨z, hz⟩ := get_some (xs := zs) (i := k + i) (by omega)
  refine sq_storeS (s := rm) (n := 1) (k := k + i) (j := 0) (a := z) (a' := (255 : UInt8)) (xs := zs) (enc := benc) (c := 1) (v := .int .u8 255) (by kernel_rfl) rfl rfl (by omega) hz (by simp [Value.cells, Value.oneCell']) rfl (by omega) (by rfl) ?_
  refine sq_nil ?_
  refine ex_block ?_
  refine ex_then ?_
  refine cw_region ?_
  refine sq_r (ry_add rfl rfl (by omega)) ?_
  refine sq_r (ry_move rfl) ?_
  refine sq_nil ?_
  exact ex_again (x := (i, zs)) (i + 1, zs.set (k + i) 255) ⟨by first | omega | (simp only []; omega), by rw [hi2]; exact fill_step (by first | omega | (simp only []; omega))⟩ (by simp only; omega) (Sub.cons rfl (Sub.cons rfl (Sub.cons rfl (Sub.nil _)))) (fun w hw => Keep.mem hw)
 ·
  try simp only [Z0, Z1, Z2, Z3, Z4, Z5, Z6, Z7, Z8, Z9] at h0
  obtain rfl : i = n := by omega
  refine cw_exit ?_
  refine ex_pass_exit ?_
  refine ex_pass_exit ?_
  refine ex_block_hit ?_
  refine ex_ret (.inr rfl) (res_none rfl) (fun w1 hw => ?_)
  exact ⟨(), rfl, trivial, by rw [← hi2]; exact Keep.mem hw⟩
instance cfill_i {w0 : World} {L L2 : List Ent} {i : Nat} {rm : Sv} {k : Nat} {n : Nat} {cap : Nat} {xs : List UInt8}  [q : Owns L rm benc 1 xs i] [d1 : DelI L i L2] : FnC Tryz.prog 66 w0 L [.slice (some ⟨rm.b, rm.o + k, none⟩) n cap] (Unit) (fun zz => .tuple #[]) (fun zz => own benc 1 rm (xs.take k ++ (List.replicate n 255 ++ xs.drop (k + n))) :: L2) (fun zz => True) (k + n ≤ xs.length ∧ n ≤ 1000000) := ⟨fun hp w hw => cfill_c w0 w L2 rm k n cap xs  (mem_one q.h d1.h hw) hp⟩
theorem cloneBk_c (w : World) (s : Sv) (ss : List Bk) (hs : Lies bkcells 4 (hp w) s ss) (hpre : ss.length ≤ 1000000) : Calls Tryz.prog 107 #[s.val] w fun e w' => ∃ zz : Sv, e = .returned (zz.val) ∧ (True) ∧ Mem w [own bkcells 4 zz ss] w' := by
 have ghs : Gv w s bkcells 4 ss := ⟨hs⟩
 refine calls_of (args := [_]) Tryz.func107 rfl Tryz.ntmps107 rfl ?_
 change Cw _ _ _ _ _ [(0, s.val)] []
 refine cw_seq ?_
 refine cw_region ?_
 refine sq_r (ry_assign rfl) ?_
 refine sq_nil ?_
 refine ex_then ?_
 refine cw_seq ?_
 refine cw_seq ?_
 refine cw_region ?_
 refine sq_r (ry_move rfl) ?_
 refine sq_r (ry_nilS Tryz.underlying22 rfl) ?_
 refine sq_nil ?_
 refine ex_then ?_
 refine cw_cond rfl (fun h0 => ?_) (fun h0 => ?_)
 ·
  try simp only [Z0, Z1, Z2, Z3, Z4, Z5, Z6, Z7, Z8, Z9] at h0
  have e0 : ss = [] := List.length_eq_zero_iff.1 (by have := hs.ok.nil h0; have := hs.len; omega)
  refine cw_seq ?_
  refine cw_region ?_
  refine sq_r (ry_assign rfl) ?_
  refine sq_nil ?_
  refine ex_then ?_
  refine cw_ret ?_
  refine ex_pass_ret ?_
  refine ex_ret (.inl rfl) (res_1 rfl (rv_tmp rfl)) (fun w1 hw => ?_)
  exact ⟨Sv.none, rfl, trivial, by rw [e0]; exact (Keep.mem hw : Mem w [] _).nilOwn bkcells 4⟩
 ·
  try simp only [Z0, Z1, Z2, Z3, Z4, Z5, Z6, Z7, Z8, Z9] at h0
  refine cw_skip ?_
  refine ex_then ?_
  refine cw_seq ?_
  refine cw_region ?_
  refine sq_build0 bkcells fun b5 => ?_
  refine sq_r (ry_move rfl) ?_
  refine sq_append (s := ⟨false, b5, 0, 0, 0, none⟩) (enc := bkcells) (ys := ss) rfl rfl (by decide) (fun w hw => src_rows (s := s) Tryz.underlying22 (by decide) ((inferInstance : HdE _ _ bkcells 4 s ss).h w hw)) (by simp only [List.length_nil]; omega) (by simp only [List.length_nil]; omega) fun s7 hs7 hl7 => ?_
  refine sq_r (ry_assign rfl) ?_
  refine sq_nil ?_
  refine ex_then ?_
  refine cw_ret ?_
  refine ex_ret (.inl rfl) (res_1 rfl (rv_tmp rfl)) (fun w1 hw => ?_)
  exact ⟨s7, rfl, trivial, by rw [List.nil_append] at hw; exact Keep.mem hw⟩
instance cloneBk_i {w0 : World} {L : List Ent} {s : Sv} {ss : List Bk} [hs : HdE w0 L bkcells 4 s ss] : FnC Tryz.prog 107 w0 L [s.val] (Sv) (fun zz => zz.val) (fun zz => own bkcells 4 zz ss :: L) (fun zz => True) (ss.length ≤ 1000000) := ⟨fun hp w hw => (cloneBk_c w s ss (hs.h w hw) hp).mono fun e w' ⟨x, h1, h2, h3⟩ => ⟨x, h1, h2, hw.call h3⟩⟩
theorem cloneFt_c (w : World) (s : Sv) (ss : List Ft) (hs : Lies ftcells 4 (hp w) s ss) (hpre : ss.length ≤ 1000000) : Calls Tryz.prog 69 #[s.val] w fun e w' => ∃ zz : Sv, e = .returned (zz.val) ∧ (True) ∧ Mem w [own ftcells 4 zz ss] w' := by
 have ghs : Gv w s ftcells 4 ss := ⟨hs⟩
 refine calls_of (args := [_]) Tryz.func69 rfl Tryz.ntmps69 rfl ?_
 change Cw _ _ _ _ _ [(0, s.val)] []
 refine cw_seq ?_
 refine cw_region ?_
 refine sq_r (ry_assign rfl) ?_
 refine sq_nil ?_
 refine ex_then ?_
 refine cw_seq ?_
 refine cw_seq ?_
 refine cw_region ?_
 refine sq_r (ry_move rfl) ?_
 refine sq_r (ry_nilS Tryz.underlying23 rfl) ?_
 refine sq_nil ?_
 refine ex_then ?_
 refine cw_cond rfl (fun h0 => ?_) (fun h0 => ?_)
 ·
  try simp only [Z0, Z1, Z2, Z3, Z4, Z5, Z6, Z7, Z8, Z9] at h0
  have e0 : ss = [] := List.length_eq_zero_iff.1 (by have := hs.ok.nil h0; have := hs.len; omega)
  refine cw_seq ?_
  refine cw_region ?_
  refine sq_r (ry_assign rfl) ?_
  refine sq_nil ?_
  refine ex_then ?_
  refine cw_ret ?_
  refine ex_pass_ret ?_
  refine ex_ret (.inl rfl) (res_1 rfl (rv_tmp rfl)) (fun w1 hw => ?_)
  exact ⟨Sv.none, rfl, trivial, by rw [e0]; exact (Keep.mem hw : Mem w [] _).nilOwn ftcells 4⟩
 ·
  try simp only [Z0, Z1, Z2, Z3, Z4, Z5, Z6, Z7, Z8, Z9] at h0
  refine cw_skip ?_
  refine ex_then ?_
  refine cw_seq ?_
  refine cw_region ?_
  refine sq_build0 ftcells fun b5 => ?_
  refine sq_r (ry_move rfl) ?_
  refine sq_append (s := ⟨false, b5, 0, 0, 0, none⟩) (enc := ftcells) (ys := ss) rfl rfl (by decide) (fun w hw => src_rows (s := s) Tryz.underlying23 (by decide) ((inferInstance : HdE _ _ ftcells 4 s ss).h w hw)) (by simp only [List.length_nil]; omega) (by simp only [List.length_nil]; omega) fun s7 hs7 hl7 => ?_
  refine sq_r (ry_assign rfl) ?_
  refine sq_nil ?_
  refine ex_then ?_
  refine cw_ret ?_
  refine ex_ret (.inl rfl) (res_1 rfl (rv_tmp rfl)) (fun w1 hw => ?_)
  exact ⟨s7, rfl, trivial, by rw [List.nil_append] at hw; exact Keep.mem hw⟩
instance cloneFt_i {w0 : World} {L : List Ent} {s : Sv} {ss : List Ft} [hs : HdE w0 L ftcells 4 s ss] : FnC Tryz.prog 69 w0 L [s.val] (Sv) (fun zz => zz.val) (fun zz => own ftcells 4 zz ss :: L) (fun zz => True) (ss.length ≤ 1000000) := ⟨fun hp w hw => (cloneFt_c w s ss (hs.h w hw) hp).mono fun e w' ⟨x, h1, h2, h3⟩ => ⟨x, h1, h2, hw.call h3⟩⟩
theorem ccopied_c (w : World) (ps : Sl (Sl UInt8)) (hps : Deep.good (hp w) ps) (hpre : smallP (txs ps.xs)) : Calls Tryz.prog 108 #[ps.sv.val] w fun e w' => ∃ zz : Sl (Sl UInt8), e = .returned (zz.sv.val) ∧ (txs zz.xs = txs ps.xs) ∧ Mem w [pgE zz] w' := by
 have ghps : GvD w ps := ⟨hps⟩
 obtain ⟨hp1, hp2⟩ := hpre
 have hpl := txs_length ps.xs
 rw [hpl] at hp1
 refine calls_of (args := [_]) Tryz.func108 rfl Tryz.ntmps108 rfl ?_
 change Cw _ _ _ _ _ [(0, ps.sv.val)] []
 refine cw_seq ?_
 refine cw_region ?_
 refine sq_r (ry_assign rfl) ?_
 refine sq_nil ?_
 refine ex_then ?_
 refine cw_seq ?_
 refine cw_seq ?_
 refine cw_region ?_
 refine sq_r (ry_move rfl) ?_
 refine sq_r (ry_nilS Tryz.underlying46 rfl) ?_
 refine sq_nil ?_
 refine ex_then ?_
 refine cw_cond rfl (fun h0 => ?_) (fun h0 => ?_)
 ·
  try simp only [Z0, Z1, Z2, Z3, Z4, Z5, Z6, Z7, Z8, Z9] at h0
  have e0 : ps.xs = [] := List.length_eq_zero_iff.1 (by have := hps.1.ok.nil h0; have := hps.1.len; omega)
  refine cw_seq ?_
  refine cw_region ?_
  refine sq_r (ry_assign rfl) ?_
  refine sq_nil ?_
  refine ex_then ?_
  refine cw_ret ?_
  refine ex_pass_ret ?_
  refine ex_ret (.inl rfl) (res_1 rfl (rv_tmp rfl)) (fun w1 hw => ?_)
  exact ⟨⟨Sv.none, []⟩, rfl, by rw [e0], pg_nil (Mem.nilOwn (scells (τ := UInt8)) 1 (Keep.mem hw : Mem w [] _))⟩
 ·
  try simp only [Z0, Z1, Z2, Z3, Z4, Z5, Z6, Z7, Z8, Z9] at h0
  refine cw_skip ?_
  refine ex_then ?_
  refine cw_seq ?_
  refine cw_region ?_
  refine sq_r (ry_assign rfl) ?_
  refine sq_nil ?_
  refine ex_then ?_
  refine cw_seq ?_
  refine cw_seq ?_
  refine cw_region ?_
  refine sq_r (ry_move rfl) ?_
  refine sq_r (ry_lenH rfl) ?_
  refine sq_r (ry_move rfl) ?_
  refine sq_nil ?_
  refine ex_then ?_
  refine cw_block ?_
  refine cw_loop (X := Nat × Nat) (fun zz => [(15, .int .i64 (zz.1 : Nat)), (3, .int .i64 (zz.2 : Nat)), (0, ps.sv.val), (13, ps.sv.val), (14, .int .i64 (ps.xs.length : Nat))]) (fun zz => []) (fun zz => zz.1 ≤ ps.xs.length ∧ zz.2 = ((txs ps.xs).take zz.1).flatten.length) (fun zz => ps.xs.length - zz.1) (0, 0) ⟨Nat.zero_le _, by simp⟩ (Sub.cons rfl (Sub.cons rfl (Sub.cons rfl (Sub.cons rfl (Sub.cons rfl (Sub.nil _)))))) (fun w hw => Keep.mem hw) ?_
  rintro ⟨i, mm⟩ ⟨hi1, hi2⟩
  dsimp only
  simp only at hi1 hi2
  refine cw_seq ?_
  refine cw_region ?_
  refine sq_r (ry_int rfl rfl rfl) ?_
  refine sq_nil ?_
  refine ex_then ?_
  refine cw_seq ?_
  refine cw_cond rfl (fun h1 => ?_) (fun h1 => ?_)
  ·
   try simp only [Z0, Z1, Z2, Z3, Z4, Z5, Z6, Z7, Z8, Z9] at h1
   obtain ⟨y, hy⟩ := get_some (xs := ps.xs) (i := i) (by omega)
   have hmb : Mb y ps := ⟨List.mem_of_getElem? hy⟩
   have htk := flat_take (txs_get hy)
   have htl := flat_le (txs ps.xs) (i + 1)
   refine cw_skip ?_
   refine ex_then ?_
   refine cw_seq ?_
   refine cw_block ?_
   refine cw_seq ?_
   refine cw_region ?_
   refine sq_r (ry_idxH rfl rfl i rfl (by omega)) ?_
   refine sq_r (ry_elemcH (j := 0) rfl i hy rfl (by decide)) ?_
   have mb18 : Mb y _ := ⟨List.mem_of_getElem? hy⟩
   refine sq_r (ry_assign rfl) ?_
   refine sq_nil ?_
   refine ex_then ?_
   refine cw_region ?_
   refine sq_r (ry_move rfl) ?_
   refine sq_r (ry_move rfl) ?_
   refine sq_r (ry_lenH rfl) ?_
   refine sq_r (ry_add rfl rfl (by omega)) ?_
   refine sq_r (ry_assign rfl) ?_
   refine sq_nil ?_
   refine ex_block ?_
   refine ex_then ?_
   refine cw_region ?_
   refine sq_r (ry_add rfl rfl (by omega)) ?_
   refine sq_r (ry_move rfl) ?_
   refine sq_nil ?_
   exact ex_again (x := (i, mm)) (i + 1, mm + y.xs.length) ⟨by first | omega | (simp only []; omega), by rw [hi2, htk]⟩ (by simp only; omega) (Sub.cons rfl (Sub.cons rfl (Sub.cons rfl (Sub.cons rfl (Sub.cons rfl (Sub.nil _)))))) (fun w hw => Keep.mem hw)
  ·
   try simp only [Z0, Z1, Z2, Z3, Z4, Z5, Z6, Z7, Z8, Z9] at h1
   obtain rfl : i = ps.xs.length := by omega
   rw [List.take_of_length_le (by omega)] at hi2
   have hN : mm = (txs ps.xs).flatten.length := hi2
   refine cw_exit ?_
   refine ex_pass_exit ?_
   refine ex_pass_exit ?_
   refine ex_block_hit ?_
   refine ex_then ?_
   refine cw_seq ?_
   refine cw_region ?_
   refine sq_r (ry_move rfl) ?_
   refine sq_makeS (enc := benc) (n := 0) (cap := mm) 0 rfl rfl rfl rfl rfl (by omega) (by omega) (by omega) fun b25 => ?_
   refine sq_r (ry_assign rfl) ?_
   refine sq_nil ?_
   refine ex_then ?_
   refine cw_seq ?_
   refine cw_region ?_
   refine sq_r (ry_move rfl) ?_
   refine sq_r (ry_lenH rfl) ?_
   refine sq_makeS (enc := scells (τ := UInt8)) (n := ps.xs.length) (cap := ps.xs.length) (⟨Sv.none, []⟩ : Sl UInt8) rfl rfl rfl rfl rfl (by omega) (by omega) (by omega) fun b28 => ?_
   refine sq_r (ry_assign rfl) ?_
   refine sq_nil ?_
   refine ex_then ?_
   refine cw_seq ?_
   refine cw_seq ?_
   refine cw_region ?_
   refine sq_r (ry_move rfl) ?_
   refine sq_r (ry_lenH rfl) ?_
   refine sq_r (ry_move rfl) ?_
   refine sq_nil ?_
   refine ex_then ?_
   refine cw_block ?_
   refine cw_loop (X := Nat × Nat × List UInt8 × List (Sl UInt8)) (fun zz => [(31, .int .i64 (zz.1 : Nat)), (6, (⟨false, b25, 0, zz.2.1, mm, none⟩ : Sv).val), (7, (⟨false, b28, 0, ps.xs.length, ps.xs.length, none⟩ : Sv).val), (29, ps.sv.val), (30, .int .i64 (ps.xs.length : Nat))]) (fun zz => [own benc 1 ⟨false, b25, 0, zz.2.1, mm, none⟩ zz.2.2.1, own (scells (τ := UInt8)) 1 ⟨false, b28, 0, ps.xs.length, ps.xs.length, none⟩ zz.2.2.2]) (fun zz => zz.1 ≤ ps.xs.length ∧ zz.2.1 = zz.2.2.1.length ∧ zz.2.2.1 = ((txs ps.xs).take zz.1).flatten ∧ zz.2.2.2 = wins ⟨false, b25, 0, mm, mm, none⟩ 0 ((txs ps.xs).take zz.1) ++ List.replicate (ps.xs.length - zz.1) (⟨Sv.none, []⟩ : Sl UInt8)) (fun zz => ps.xs.length - zz.1) (0, 0, List.replicate 0 0, List.replicate ps.xs.length (⟨Sv.none, []⟩ : Sl UInt8)) ⟨Nat.zero_le _, rfl, by simp, by simp [wins]⟩ (Sub.cons rfl (Sub.cons rfl (Sub.cons rfl (Sub.cons rfl (Sub.cons rfl (Sub.nil _)))))) (fun w hw => Keep.mem hw) ?_
   rintro ⟨i, m, r, zs⟩ ⟨hi1, hi2, hi3, hi4⟩
   dsimp only
   simp only at hi1 hi2 hi3 hi4
   refine cw_seq ?_
   refine cw_region ?_
   refine sq_r (ry_int rfl rfl rfl) ?_
   refine sq_nil ?_
   refine ex_then ?_
   refine cw_seq ?_
   refine cw_cond rfl (fun h2 => ?_) (fun h2 => ?_)
   ·
    try simp only [Z0, Z1, Z2, Z3, Z4, Z5, Z6, Z7, Z8, Z9] at h2
    obtain ⟨y, hy⟩ := get_some (xs := ps.xs) (i := i) (by omega)
    have hmb : Mb y ps := ⟨List.mem_of_getElem? hy⟩
    have htk := flat_take (txs_get hy)
    have htl := flat_le (txs ps.xs) (i + 1)
    have hrl : r.length + y.xs.length ≤ mm := by rw [hN, hi3, ← htk]; exact htl
    have hzi := get_some (xs := zs) (i := i) (by rw [hi4, List.length_append, wins_length, List.length_take, List.length_replicate]; omega)
    obtain ⟨z, hz⟩ := hzi
    have hzl : i < zs.length := (List.getElem?_eq_some_iff.1 hz).1
    refine cw_skip ?_
    refine ex_then ?_
    refine cw_seq ?_
    refine cw_block ?_
    refine cw_seq ?_
    refine cw_region ?_
    refine sq_r (ry_move rfl) ?_
    refine sq_r (ry_idxH rfl rfl i rfl (by omega)) ?_
    refine sq_r (ry_elemcH (j := 0) rfl i hy rfl (by decide)) ?_
    have mb35 : Mb y _ := ⟨List.mem_of_getElem? hy⟩
    refine sq_r (ry_assign rfl) ?_
    refine sq_r (ry_assign rfl) ?_
    refine sq_nil ?_
    refine ex_then ?_
    refine cw_seq ?_
    refine cw_region ?_
    refine sq_r (ry_move rfl) ?_
    refine sq_r (ry_lenH rfl) ?_
    refine sq_r (ry_assign rfl) ?_
    refine sq_nil ?_
    refine ex_then ?_
    refine cw_seq ?_
    refine cw_region ?_
    refine sq_r (ry_move rfl) ?_
    refine sq_r (ry_move rfl) ?_
    refine sq_appendIn (s := ⟨false, b25, 0, m, mm, none⟩) (enc := benc) (xs := r) (ys := y.xs) rfl rfl (fun w hw => src_rows (s := y.sv) Tryz.underlying38 (by decide) ((inferInstance : HdE _ _ benc 1 y.sv y.xs).h w hw)) rfl (by simp only; omega) (by simp only; omega) ?_
    refine sq_r (ry_assign rfl) ?_
    refine sq_nil ?_
    refine ex_then ?_
    refine cw_region ?_
    refine sq_r (ry_move rfl) ?_
    refine sq_r (ry_move rfl) ?_
    refine sq_r (ry_move rfl) ?_
    refine sq_r (ry_move rfl) ?_
    refine sq_r (ry_move rfl) ?_
    refine sq_r (ry_lenH rfl) ?_
    refine sq_r (ry_move rfl) ?_
    refine sq_r (ry_lenH rfl) ?_
    refine sq_r (Ry.to (v' := (win (⟨false, b25, 0, mm, mm, none⟩ : Sv) r.length (r.length + y.xs.length)).val) (ry_subH3 (l := r.length) (h := (r ++ y.xs).length) (m := (r ++ y.xs).length) rfl rfl rfl rfl rfl rfl rfl (by simp) (by simp) (by simp)) (by simp [win, Sv.sub, Sv.top])) ?_
    refine sq_r (ry_idxH rfl rfl i rfl (by omega)) ?_
    refine sq_storeSv (s := ⟨false, b28, 0, ps.xs.length, ps.xs.length, none⟩) (xs := zs) (k := i) (a := z) (⟨(win (⟨false, b25, 0, mm, mm, none⟩ : Sv) r.length (r.length + y.xs.length)), y.xs⟩ : Sl UInt8) (by kernel_rfl) rfl rfl (by omega) hz ?_
    refine sq_nil ?_
    refine ex_block ?_
    refine ex_then ?_
    refine cw_region ?_
    refine sq_r (ry_add rfl rfl (by omega)) ?_
    refine sq_r (ry_move rfl) ?_
    refine sq_nil ?_
    exact ex_again (x := (i, m, r, zs)) (i + 1, m + y.xs.length, r ++ y.xs, zs.set i ⟨(win (⟨false, b25, 0, mm, mm, none⟩ : Sv) r.length (r.length + y.xs.length)), y.xs⟩) ⟨by first | omega | (simp only []; omega), by rw [List.length_append, hi2], by rw [hi3, List.take_add_one, txs_get hy]; simp, by rw [hi4]; exact wins_step (by rw [hpl]) hi3 (txs_get hy)⟩ (by simp only; omega) (Sub.cons rfl (Sub.cons rfl (Sub.cons rfl (Sub.cons rfl (Sub.cons rfl (Sub.nil _)))))) (fun w hw => Keep.mem hw)
   ·
    try simp only [Z0, Z1, Z2, Z3, Z4, Z5, Z6, Z7, Z8, Z9] at h2
    obtain rfl : i = ps.xs.length := by omega
    rw [List.take_of_length_le (by omega)] at hi3 hi4
    rw [Nat.sub_self, List.replicate_zero, List.append_nil] at hi4
    refine cw_exit ?_
    refine ex_pass_exit ?_
    refine ex_pass_exit ?_
    refine ex_block_hit ?_
    refine ex_then ?_
    refine cw_seq ?_
    refine cw_region ?_
    refine sq_r (ry_move rfl) ?_
    refine sq_r (ry_assign rfl) ?_
    refine sq_nil ?_
    refine ex_then ?_
    refine cw_ret ?_
    refine ex_ret (.inl rfl) (res_1 rfl (rv_tmp rfl)) (fun w1 hw => ?_)
    exact ⟨⟨⟨false, b28, 0, ps.xs.length, ps.xs.length, none⟩, zs⟩, rfl, by rw [hi4, wins_txs], pg_shut (rm := ⟨false, b25, 0, mm, mm, none⟩) hi4 rfl (by rw [show m = mm by rw [hi2, hi3, hN], hi3] at hw; exact Keep.mem hw)⟩
instance ccopied_i {w0 : World} {L : List Ent} {ps : Sl (Sl UInt8)} [hps : HdD w0 L ps] : FnC Tryz.prog 108 w0 L [ps.sv.val] (Sl (Sl UInt8)) (fun zz => zz.sv.val) (fun zz => pgE zz :: L) (fun zz => txs zz.xs = txs ps.xs) (smallP (txs ps.xs)) := ⟨fun hp w hw => (ccopied_c w ps (hps.h w hw) hp).mono fun e w' ⟨x, h1, h2, h3⟩ => ⟨x, h1, h2, hw.call h3⟩⟩

end Go.Proofs.YtaipiecplldinaaGreat

/- Small chips, their blocks and faults. No program in sight. -/
namespace Go.Kb
open Go.Eng
def smallC (c : Cp) : Prop := c.blocks.xs.length ≤ 1000000 ∧ c.faults.xs.length ≤ 1000000 ∧ ∀ b ∈ c.blocks.xs, smallP (txs b.pages.xs)
theorem set_id {α : Type} {l : List α} {i : Nat} {z : α} (h : l[i]? = some z) : l.set i z = l := by
 obtain ⟨hi, rfl⟩ := List.getElem?_eq_some_iff.1 h
 exact List.set_getElem_self hi
theorem bvs_set (l : List Bk) (i : Nat) (b : Bk) : bvs (l.set i b) = (bvs l).set i (bv b) := by simp [bvs, List.map_set]
theorem bag_next {zs : List Bk} {i : Nat} {z z' : Bk} (h : zs[i]? = some z) : ((zs.take i).map fun b : Bk => pgE b.pages) ++ [pgE z'.pages] = ((zs.set i z').take (i + 1)).map fun b : Bk => pgE b.pages := by
 have hi := (List.getElem?_eq_some_iff.1 h).1
 rw [List.take_add_one, List.getElem?_set_self hi, List.take_set_of_le (Nat.le_refl _), List.map_append]
 rfl
theorem strikes_none {c : CV} (h : ∀ f ∈ c.faults, f.op ≠ c.ops) : strikesF c = (zFt, false) := by
 have : c.faults.find? (fun f => decide (f.op = c.ops)) = none := List.find?_eq_none.2 fun f hf => by simpa using h f hf
 rw [strikesF, this]
theorem strikes_some {c : CV} {i : Nat} {f : Ft} (hf : c.faults[i]? = some f) (h : ∀ j g, j < i → c.faults[j]? = some g → g.op ≠ c.ops) (he : f.op = c.ops) : strikesF c = (f, f.cut || f.fail) := by
 have : c.faults.find? (fun f => decide (f.op = c.ops)) = some f := by
  rw [List.find?_eq_some_iff_getElem]
  obtain ⟨hi, rfl⟩ := List.getElem?_eq_some_iff.1 hf
  exact ⟨by simpa using he, i, hi, rfl, fun j hj => by
   simpa using h j (c.faults[j]'(by omega)) hj (List.getElem?_eq_getElem (by omega))⟩
 rw [strikesF, this]
theorem sum_le : ∀ l : List (List UInt8), (∀ x ∈ l, x.length ≤ 256) → (l.map List.length).sum ≤ l.length * 256
 | [], _ => by simp
 | x :: l, hl => by
  have h1 := sum_le l fun y hy => hl y (List.mem_cons_of_mem _ hy)
  have h2 := hl x List.mem_cons_self
  simp only [List.map_cons, List.sum_cons, List.length_cons]
  omega
theorem small_of {c : Cp} (h : chipOk (cv c) = true) : smallC c := by
 obtain ⟨h1, h2, h3, h4, h5⟩ := chipOk_iff.1 h
 obtain ⟨s1, s2, s3, s4, s5, s6⟩ := soundF_iff.1 h1
 simp only [cv, bvs_length] at *
 refine ⟨by omega, by omega, fun b hb => ?_⟩
 have g := bkOk_iff.1 (h5 (bv b) (List.mem_map_of_mem hb))
 simp only [bv] at g
 have hf : (txs b.pages.xs).flatten.length ≤ (txs b.pages.xs).length * 256 := by
  rw [List.length_flatten]
  exact sum_le _ fun x hx => by have := g.2.2.2.2.2 x hx; omega
 exact ⟨by omega, by omega⟩
theorem wins_sv {rm : Sv} : ∀ {o : Nat} {l l' : List (List UInt8)}, l.map List.length = l'.map List.length → (wins rm o l).map (fun x => x.sv) = (wins rm o l').map (fun x => x.sv)
 | _, [], [], _ => rfl
 | _, [], _ :: _, h => by simp at h
 | _, _ :: _, [], h => by simp at h
 | o, p :: l, p' :: l', h => by
  simp only [List.map_cons, List.cons.injEq] at h
  have := wins_sv (rm := rm) (o := o + p'.length) h.2
  simp only [wins, List.map_cons, h.1, this]
theorem wins_svset {rm : Sv} {l : List (List UInt8)} {i : Nat} {q r : List UInt8} (h : l[i]? = some q) (hr : r.length = q.length) : (wins rm 0 l).map (fun x => x.sv) = (wins rm 0 (l.set i r)).map (fun x => x.sv) := wins_sv (by
 rw [List.map_set, hr, set_id]
 rw [List.getElem?_map, h]; rfl)
theorem flat_get : ∀ {l : List (List UInt8)} {i j : Nat} {q : List UInt8}, l[i]? = some q → j < q.length → l.flatten[(l.take i).flatten.length + j]? = q[j]?
 | y :: l, 0, j, q, h, hj => by
  obtain rfl : y = q := by simpa using h
  simp only [List.take_zero, List.flatten_nil, List.length_nil, Nat.zero_add, List.flatten_cons]
  rw [List.getElem?_append_left hj]
 | y :: l, i + 1, j, q, h, hj => by
  have := flat_get (l := l) (i := i) (j := j) (q := q) (by simpa using h) hj
  simp only [List.take_succ_cons, List.flatten_cons, List.length_append]
  rw [Nat.add_assoc, List.getElem?_append_right (by omega), Nat.add_sub_cancel_left, this]
theorem flat_upd : ∀ {l : List (List UInt8)} {i j : Nat} {q : List UInt8} {v : UInt8}, l[i]? = some q → j < q.length → l.flatten.set ((l.take i).flatten.length + j) v = (l.set i (q.set j v)).flatten
 | y :: l, 0, j, q, v, h, hj => by
  obtain rfl : y = q := by simpa using h
  simp only [List.take_zero, List.flatten_nil, List.length_nil, Nat.zero_add, List.flatten_cons, List.set_cons_zero]
  rw [List.set_append_left _ _ hj]
 | y :: l, i + 1, j, q, v, h, hj => by
  have := flat_upd (l := l) (i := i) (j := j) (q := q) (v := v) (by simpa using h) hj
  simp only [List.take_succ_cons, List.flatten_cons, List.length_append, List.set_cons_succ]
  rw [Nat.add_assoc, List.set_append_right _ _ (by omega), Nat.add_sub_cancel_left, this]
theorem take_setq {l : List (List UInt8)} {i : Nat} {r : List UInt8} : (l.set i r).take i = l.take i := List.take_set_of_le (Nat.le_refl _)
theorem win_o {rm : Sv} {lo n : Nat} (h : 0 < n) : (win rm lo (lo + n)).o = rm.o + lo := by
 simp only [win]; rw [if_neg (by omega)]
theorem win_ok {rm : Sv} {lo n : Nat} (hn : rm.nil = false) (hs : rm.sp = none) (hb : n ≤ 1000000) : (win rm lo (lo + n)).Ok :=
 ⟨fun h => absurd (hn.symm.trans h) (by decide), Nat.le_refl _, by simp only [win]; omega, fun _ => hs⟩
theorem prog_cv {c : CV} {x : Cp} {B : Bk} {b g : Int} {q : List UInt8} {rm : Sv} {off : Bool} (hx : cv x = c) (hB : bv B = blkAt c b) :
  cv ⟨x.pages, x.size, ⟨x.blocks.sv, x.blocks.xs.set b.toNat ⟨⟨B.pages.sv, wins rm 0 ((txs B.pages.xs).set g.toNat q)⟩, B.used + 1, B.worn, B.bad⟩⟩, x.ops + 1, off, x.faults⟩ = { c with ops := c.ops + 1, off := off, blocks := c.blocks.set b.toNat { blkAt c b with used := (blkAt c b).used + 1, pages := (blkAt c b).pages.set g.toNat q } } := by
 subst hx
 rw [← hB]
 simp only [cv, bvs_set, bv, wins_txs]
theorem hurt_step {m : UInt8} {xs : List UInt8} {i : Nat} {z : UInt8} (h : xs[i]? = some z) : (hurt m (xs.take i) ++ xs.drop i).set i (z ||| m) = hurt m (xs.take (i + 1)) ++ xs.drop (i + 1) := by
 have hi := (List.getElem?_eq_some_iff.1 h).1
 have hl : (hurt m (xs.take i)).length = i := by rw [hurt, List.length_map, List.length_take]; omega
 rw [List.set_append_right _ _ (by omega), hl, Nat.sub_self, List.drop_eq_getElem_cons hi, List.set_cons_zero, List.take_add_one, h, hurt, hurt, List.map_append, List.append_assoc]
 rfl
theorem hurt_get {m : UInt8} {xs : List UInt8} {i : Nat} (h : i < xs.length) : (hurt m (xs.take i) ++ xs.drop i)[i]? = xs[i]? := by
 have hl : (hurt m (xs.take i)).length = i := by rw [hurt, List.length_map, List.length_take]; omega
 rw [List.getElem?_append_right (by omega), hl, Nat.sub_self, List.getElem?_drop, Nat.add_zero]
theorem hurt_len {m : UInt8} {xs : List UInt8} {i : Nat} (h : i ≤ xs.length) : (hurt m (xs.take i) ++ xs.drop i).length = xs.length := by
 rw [hurt, List.length_append, List.length_map, List.length_take, List.length_drop]; omega
theorem room_step {T : List (List UInt8)} {g i : Nat} {q xs : List UInt8} {m z : UInt8} (hq : T[g]? = some q) (hz : xs[i]? = some z) : (T.set g (hurt m (xs.take (i + 1)) ++ xs.drop (i + 1))).flatten = (T.set g (hurt m (xs.take i) ++ xs.drop i)).flatten.set ((T.take g).flatten.length + i) (z ||| m) := by
 have hg := (List.getElem?_eq_some_iff.1 hq).1
 have hi := (List.getElem?_eq_some_iff.1 hz).1
 have h1 := flat_upd (l := T.set g (hurt m (xs.take i) ++ xs.drop i)) (i := g) (j := i) (v := z ||| m) (List.getElem?_set_self hg) (by rw [hurt_len (by omega)]; exact hi)
 rw [take_setq] at h1
 rw [h1, List.set_set, hurt_step hz]
/-! Pages changed one by one. -/
def mixed (f : List UInt8 → List UInt8) (T : List (List UInt8)) (k : Nat) : List (List UInt8) := (T.take k).map f ++ T.drop k
theorem mixed_zero {f : List UInt8 → List UInt8} {T : List (List UInt8)} : mixed f T 0 = T := by simp [mixed]
theorem mixed_all {f : List UInt8 → List UInt8} {T : List (List UInt8)} {k : Nat} (h : T.length ≤ k) : mixed f T k = T.map f := by
 rw [mixed, List.take_of_length_le h, List.drop_eq_nil_of_le h, List.append_nil]
theorem mixed_get {f : List UInt8 → List UInt8} {T : List (List UInt8)} {k : Nat} {q : List UInt8} (h : T[k]? = some q) : (mixed f T k)[k]? = some q := by
 have hk := (List.getElem?_eq_some_iff.1 h).1
 have hl : ((T.take k).map f).length = k := by rw [List.length_map, List.length_take]; omega
 rw [mixed, List.getElem?_append_right (by omega), hl, Nat.sub_self, List.getElem?_drop, Nat.add_zero, h]
theorem mixed_set {f : List UInt8 → List UInt8} {T : List (List UInt8)} {k : Nat} {q : List UInt8} (h : T[k]? = some q) : (mixed f T k).set k (f q) = mixed f T (k + 1) := by
 have hk := (List.getElem?_eq_some_iff.1 h).1
 have hl : ((T.take k).map f).length = k := by rw [List.length_map, List.length_take]; omega
 obtain ⟨_, rfl⟩ := List.getElem?_eq_some_iff.1 h
 rw [mixed, List.set_append_right _ _ (by omega), hl, Nat.sub_self, List.drop_eq_getElem_cons hk, List.set_cons_zero, mixed, List.take_add_one, List.getElem?_eq_getElem hk, List.map_append, List.append_assoc]
 rfl
theorem mixed_take {f : List UInt8 → List UInt8} {T : List (List UInt8)} {k : Nat} (hf : ∀ x ∈ T, (f x).length = x.length) (hk : k ≤ T.length) : ((mixed f T k).take k).flatten.length = (T.take k).flatten.length := by
 have hl : ((T.take k).map f).length = k := by rw [List.length_map, List.length_take]; omega
 rw [mixed, List.take_append_of_le_length (by omega), List.take_of_length_le (by omega), List.length_flatten, List.length_flatten, List.map_map]
 congr 1
 exact List.map_congr_left fun x hx => hf x (List.mem_of_mem_take hx)
theorem fill_room {f : List UInt8 → List UInt8} {T : List (List UInt8)} {k n : Nat} {q : List UInt8} (hq : T[k]? = some q) (hf : ∀ x ∈ T, (f x).length = x.length) (he : f q = List.replicate n 255) (hn : n = q.length) : (mixed f T (k + 1)).flatten = (mixed f T k).flatten.take (T.take k).flatten.length ++ (List.replicate n 255 ++ (mixed f T k).flatten.drop ((T.take k).flatten.length + n)) := by
 have hk := (List.getElem?_eq_some_iff.1 hq).1
 rw [← mixed_set hq, flat_set (mixed_get hq) (by rw [he, List.length_replicate, hn]), mixed_take hf (by omega), he, List.length_replicate]
theorem map_sv {rm : Sv} {f : List UInt8 → List UInt8} {T : List (List UInt8)} (hf : ∀ x ∈ T, (f x).length = x.length) : (wins rm 0 T).map (fun x => x.sv) = (wins rm 0 (T.map f)).map (fun x => x.sv) := wins_sv (by
 rw [List.map_map]
 exact (List.map_congr_left fun x hx => (hf x hx)).symm)
theorem win_val {rm : Sv} {lo n : Nat} (hn : rm.nil = false) (hs : rm.sp = none) (h : 0 < n) : (win rm lo (lo + n)).val = .slice (some ⟨rm.b, rm.o + lo, none⟩) n n := by
 rw [Sv.val_some (s := win rm lo (lo + n)) hn, show (win rm lo (lo + n)).sp = rm.sp from rfl, hs, win_o h, show (win rm lo (lo + n)).len = n from Nat.add_sub_cancel_left .., show (win rm lo (lo + n)).cap = n from Nat.add_sub_cancel_left ..]
 rfl
theorem blkAt_eq {c : Cp} {b : Int} : bv (c.blocks.xs.getD b.toNat zBk) = blkAt (cv c) b := by
 simp only [blkAt, cv, bvs, List.getD_eq_getElem?_getD, List.getElem?_map]
 cases c.blocks.xs[b.toNat]? <;> rfl
theorem has_lt {c : Cp} {b : Int} (h : hasF (cv c) b = true) : 0 ≤ b ∧ b.toNat < c.blocks.xs.length := by
 obtain ⟨_, h2, h3⟩ := hasF_iff.1 h
 simp only [cv, bvs_length] at h3
 exact ⟨h2, by omega⟩
theorem erase_cv {c : CV} {x : Cp} {B : Bk} {b u : Int} {l : List (List UInt8)} {rm : Sv} {off : Bool} (hx : cv x = c) (hB : bv B = blkAt c b) :
  cv ⟨x.pages, x.size, ⟨x.blocks.sv, x.blocks.xs.set b.toNat ⟨⟨B.pages.sv, wins rm 0 l⟩, u, B.worn + 1, B.bad⟩⟩, x.ops + 1, off, x.faults⟩ = { c with ops := c.ops + 1, off := off, blocks := c.blocks.set b.toNat { blkAt c b with used := u, worn := (blkAt c b).worn + 1, pages := l } } := by
 subst hx
 rw [← hB]
 simp only [cv, bvs_set, bv, wins_txs]
theorem bag_same {xs : List Bk} {i : Nat} {B B' : Bk} (h : xs[i]? = some B) (hp : B'.pages = B.pages) : ((xs.set i B').map fun b : Bk => pgE b.pages) = xs.map fun b : Bk => pgE b.pages := by
 rw [List.map_set, hp]
 refine set_id ?_
 rw [List.getElem?_map, h]; rfl
theorem mark_cv {c : CV} {x : Cp} {B : Bk} {b : Int} (hx : cv x = c) (hB : bv B = blkAt c b) :
  cv ⟨x.pages, x.size, ⟨x.blocks.sv, x.blocks.xs.set b.toNat ⟨B.pages, B.used, B.worn, true⟩⟩, x.ops, x.off, x.faults⟩ = { c with blocks := c.blocks.set b.toNat { blkAt c b with bad := true } } := by
 subst hx
 rw [← hB]
 simp only [cv, bvs_set, bv]
/-! A chip made anew: pages that are let go of one by one. -/
theorem frzP' {w0 w : World} {L : List Ent} {s : Sv} {xs : List (Sl UInt8)} (h : Mem w0 (own (scells (τ := UInt8)) 1 s xs :: Ent.all (xs.map fun p : Sl UInt8 => fz p) :: L) w) : Mem w0 (fz (⟨s, xs⟩ : Sl (Sl UInt8)) :: L) w := by
 have hs := h.sat (own (scells (τ := UInt8)) 1 s xs) (by simp)
 have ha := h.sat (Ent.all (xs.map fun p : Sl UInt8 => fz p)) (by simp)
 refine Mem.freeze (es := [own (scells (τ := UInt8)) 1 s xs, Ent.all (xs.map fun p : Sl UInt8 => fz p)]) _ ⟨hs.1, fun x hx => Ent.all_sat ha (fz x) (List.mem_map_of_mem hx)⟩ (fun k hk => ?_) h
 rcases hk with ⟨hne, rfl⟩ | ⟨x, hx, hk⟩
 ·
  exact ⟨_, by simp, own_fp' hs.1 hne⟩
 ·
  exact ⟨Ent.all (xs.map fun p : Sl UInt8 => fz p), by simp, Ent.all_fp' (List.mem_map_of_mem (f := fun p : Sl UInt8 => fz p) hx) hk⟩
theorem frzB' {w0 w : World} {L : List Ent} {s : Sv} {xs : List Bk} (h : Mem w0 (own bkcells 4 s xs :: Ent.all (xs.map fun b : Bk => fz b.pages) :: L) w) : Mem w0 (fz (⟨s, xs⟩ : Sl Bk) :: L) w := by
 have hs := h.sat (own bkcells 4 s xs) (by simp)
 have ha := h.sat (Ent.all (xs.map fun b : Bk => fz b.pages)) (by simp)
 refine Mem.freeze (es := [own bkcells 4 s xs, Ent.all (xs.map fun b : Bk => fz b.pages)]) _ ⟨hs.1, fun x hx => Ent.all_sat ha (fz x.pages) (List.mem_map_of_mem (f := fun b : Bk => fz b.pages) hx)⟩ (fun k hk => ?_) h
 rcases hk with ⟨hne, rfl⟩ | ⟨x, hx, hk⟩
 ·
  exact ⟨_, by simp, own_fp' hs.1 hne⟩
 ·
  exact ⟨Ent.all (xs.map fun b : Bk => fz b.pages), by simp, Ent.all_fp' (List.mem_map_of_mem (f := fun b : Bk => fz b.pages) hx) hk⟩
theorem frzNil {w0 w : World} {L : List Ent} {s : Sv} (hs : s.Ok) (hl : s.len = 0) (h : Mem w0 L w) : Mem w0 (fz (⟨s, []⟩ : Sl Ft) :: L) w :=
 Mem.freeze (es := []) _ ⟨⟨hs, hl, fun i x hx => by cases hx⟩, fun x hx => by cases hx⟩ (fun k hk => by
  rcases hk with ⟨hne, _⟩ | ⟨x, hx, _⟩
  ·
   exact absurd rfl hne
  ·
   cases hx) h
theorem frzNew {w0 w : World} {L : List Ent} {d : Cp} (hf : d.faults = ⟨Sv.none, []⟩) (h : Mem w0 (own bkcells 4 d.blocks.sv d.blocks.xs :: Ent.all (d.blocks.xs.map fun b : Bk => fz b.pages) :: L) w) : Mem w0 (fz d :: L) w := by
 have h1 := frzNil (s := Sv.none) Sv.none_ok rfl (frzB' h)
 rw [← hf] at h1
 exact frzC (h1.perm (List.Perm.swap _ _ _))
theorem bag_nextF {zs : List Bk} {i : Nat} {z z' : Bk} (h : zs[i]? = some z) : ((zs.take i).map fun b : Bk => fz b.pages) ++ [fz z'.pages] = ((zs.set i z').take (i + 1)).map fun b : Bk => fz b.pages := by
 have hi := (List.getElem?_eq_some_iff.1 h).1
 rw [List.take_add_one, List.getElem?_set_self hi, List.take_set_of_le (Nat.le_refl _), List.map_append]
 rfl
theorem bag_nextP {zs : List (Sl UInt8)} {i : Nat} {z z' : Sl UInt8} (h : zs[i]? = some z) : ((zs.take i).map fun b : Sl UInt8 => fz b) ++ [fz z'] = ((zs.set i z').take (i + 1)).map fun b : Sl UInt8 => fz b := by
 have hi := (List.getElem?_eq_some_iff.1 h).1
 rw [List.take_add_one, List.getElem?_set_self hi, List.take_set_of_le (Nat.le_refl _), List.map_append]
 rfl
theorem take_next {α β : Type} {f : α → β} {zs : List α} {i : Nat} {z z' : α} (h : zs[i]? = some z) : ((zs.set i z').take (i + 1)).map f = (zs.take i).map f ++ [f z'] := by
 have hi := (List.getElem?_eq_some_iff.1 h).1
 rw [List.take_add_one, List.getElem?_set_self hi, List.take_set_of_le (Nat.le_refl _), List.map_append]
 rfl
theorem sv_ok0 {b n : Nat} (h : n ≤ 1000000) : (⟨false, b, 0, n, n, none⟩ : Sv).Ok := ⟨fun h => (by cases h), Nat.le_refl _, by simp only; omega, fun _ => rfl⟩
end Go.Kb
namespace Go.Eng
theorem cw_ex {P : Program} {N : Fra} {w0 : World} {env : Env} {L : List Ent} {Q : Exit → Act → World → Prop} {c : Code} {X : Type} {pr : X → Prop} (Lx : X → List Ent) (h : ∀ w, Mem w0 L w → ∃ x, pr x ∧ Mem w0 (Lx x) w) (hk : ∀ x, pr x → Cw P N w0 Q c env (Lx x)) : Cw P N w0 Q c env L := fun a w ha hw => by
 obtain ⟨x, h1, h2⟩ := h w hw
 exact hk x h1 a w ha h2
end Go.Eng

/- A chip cloned; which fault strikes. -/
namespace Go.Proofs.YtaipiecplldinaaGreat
open Go.Eng Go.Kb
open Go.RowKit
theorem cclone_c (w : World) (c : Cp) (hc : Deep.good (hp w) c) (hpre : smallC c) : Calls Tryz.prog 67 #[.agg (cpcells c)] w fun e w' => ∃ zz : Cp, e = .returned (.agg (cpcells zz)) ∧ (cv zz = cv c) ∧ Mem w [own bkcells 4 zz.blocks.sv zz.blocks.xs, Ent.all (zz.blocks.xs.map fun b : Bk => pgE b.pages), own ftcells 4 zz.faults.sv zz.faults.xs] w' := by
 have ghc : GvD w c := ⟨hc⟩
 obtain ⟨hp1, hp2, hp3⟩ := hpre
 refine calls_of (args := [_]) Tryz.func67 rfl Tryz.ntmps67 rfl ?_
 change Cw _ _ _ _ _ [(0, .agg (cpcells c))] []
 refine cw_seq ?_
 refine cw_region ?_
 refine sq_boxA rfl fun b1 => ?_
 refine sq_allocA fun b2 => ?_
 refine sq_nil ?_
 refine ex_then ?_
 refine cw_seq ?_
 refine cw_region ?_
 refine sq_r (ry_field (o' := 2) rfl rfl) ?_
 refine sq_r (ry_cellc rfl) ?_
 refine sq_callC rfl (by omega) fun x6 hp6 => ?_
 refine sq_r (ry_field (o' := 2) rfl rfl) ?_
 refine sq_store (cs' := cpcells (⟨c.pages, c.size, ⟨x6, c.blocks.xs⟩, c.ops, c.off, c.faults⟩ : Cp)) rfl rfl (by show 2 < 6; decide) (by first | rfl | exact Sv.one _) rfl ?_
 refine sq_nil ?_
 refine ex_then ?_
 refine cw_seq ?_
 refine cw_seq ?_
 refine cw_region ?_
 refine sq_r (ry_field (o' := 2) rfl rfl) ?_
 refine sq_r (ry_cellc rfl) ?_
 refine sq_r (ry_lenH rfl) ?_
 refine sq_r (ry_move rfl) ?_
 refine sq_nil ?_
 refine ex_then ?_
 refine cw_block ?_
 refine cw_loop (X := Nat × List Bk) (fun zz => [(11, .int .i64 (zz.1 : Nat)), (1, .pointer (some ⟨b1, 0, none⟩)), (2, .pointer (some ⟨b2, 0, none⟩)), (10, .int .i64 (c.blocks.xs.length : Nat))]) (fun zz => [own bkcells 4 x6 zz.2, Ent.all ((zz.2.take zz.1).map fun b : Bk => pgE b.pages), blk b2 (cpcells zCp) 25, blk b1 (cpcells (⟨c.pages, c.size, ⟨x6, zz.2⟩, c.ops, c.off, c.faults⟩ : Cp)) 25]) (fun zz => zz.1 ≤ c.blocks.xs.length ∧ zz.2.length = c.blocks.xs.length ∧ bvs zz.2 = bvs c.blocks.xs ∧ ∀ j, zz.1 ≤ j → zz.2[j]? = c.blocks.xs[j]?) (fun zz => c.blocks.xs.length - zz.1) (0, c.blocks.xs) ⟨Nat.zero_le _, rfl, rfl, fun _ _ => rfl⟩ (Sub.cons rfl (Sub.cons rfl (Sub.cons rfl (Sub.cons rfl (Sub.nil _))))) (fun w hw => by
  simp only [List.take_zero, List.map_nil]; exact Keep.mem (Mem.bag0 hw)) ?_
 rintro ⟨i, zs⟩ ⟨hi1, hi2, hi3, hi4⟩
 dsimp only
 simp only at hi1 hi2 hi3 hi4
 refine cw_seq ?_
 refine cw_region ?_
 refine sq_r (ry_int rfl rfl rfl) ?_
 refine sq_nil ?_
 refine ex_then ?_
 refine cw_seq ?_
 refine cw_cond rfl (fun h0 => ?_) (fun h0 => ?_)
 ·
  try simp only [Z0, Z1, Z2, Z3, Z4, Z5, Z6, Z7, Z8, Z9] at h0
  obtain ⟨z, hz⟩ := get_some (xs := zs) (i := i) (by omega)
  have mbz : Mb z c.blocks := ⟨List.mem_of_getElem? (by rw [← hi4 i (Nat.le_refl _)]; exact hz)⟩
  refine cw_skip ?_
  refine ex_then ?_
  refine cw_seq ?_
  refine cw_block ?_
  refine cw_seq ?_
  refine cw_region ?_
  refine sq_r (ry_move rfl) ?_
  refine sq_r (ry_assign rfl) ?_
  refine sq_nil ?_
  refine ex_then ?_
  refine cw_owned (s := x6) (enc := bkcells) (c := 4) (xs := zs) inferInstance (by omega) fun hn6 hs6 ho6 hl6 => ?_
  refine cw_lin [9, 12, 1003, 1004, 1006, 1007, 1008, 1010, 1011] [[], [], [], [], [3], [], [3, 4], [3, 4, 6], [3, 4, 6, 7], [3, 4, 6, 7, 8], [3, 4, 6, 7, 8, 9], [3, 4, 6, 7, 8, 9, 10], [3, 4, 6, 7, 8, 9, 10, 11]] [0, 1, 2, 3, 4, 5, 6, 7, 8, 9, 10, 11, 12] [blk b1 (cpcells (⟨c.pages, c.size, ⟨x6, zs⟩, c.ops, c.off, c.faults⟩ : Cp)) 25] (fun _ hw => Keep.mem hw) (by kernel_rfl) (by kernel_rfl) ?_
  refine ln_r rfl (ry_field (o' := 2) rfl rfl) ?_
  refine ln_r rfl (ry_cellc rfl) ?_
  refine ln_r rfl (ry_move rfl) ?_
  refine lt_r rfl (ry_field (o' := 2) rfl rfl) ?_
  refine lt_r rfl (ry_cellc rfl) ?_
  refine ln_r rfl (ry_move rfl) ?_
  refine lt_r rfl (ry_idxH rfl rfl i rfl (by omega)) ?_
  refine lt_r rfl (ry_field rfl rfl) ?_
  refine lt_r rfl (ry_elemcH (j := 0) rfl i hz rfl (by decide)) ?_
  refine ln_st rfl (st_callC rfl (hp3 z mbz.h) fun x23 hp23 => ⟨fun _ hw => Keep.mem hw, ?_⟩)
  refine lt_r rfl (ry_idxSv (s := x6) (i := i) rfl rfl rfl ho6 (by omega)) ?_
  refine lt_r rfl (ry_field rfl rfl) ?_
  refine ln_st rfl (st_storeS (n := 1) (k := i) (j := 0) (a := z) (a' := ({ z with pages := x23 } : Bk)) (xs := zs) (enc := bkcells) (c := 4) (v := x23.sv.val) (by kernel_rfl) rfl rfl rfl hz (by rw [Sv.cells_val]; simp [Sv.one]) (by rw [Sv.cells_val]; rfl) (by decide) (by rw [Sv.cells_val]; rfl) ⟨fun _ hw => Keep.mem hw, ?_⟩)
  refine ln_nil ?_
  refine ex_block ?_
  refine ex_then ?_
  refine cw_region ?_
  refine sq_r (ry_add rfl rfl (by omega)) ?_
  refine sq_r (ry_move rfl) ?_
  refine sq_nil ?_
  exact ex_again (x := (i, zs)) (i + 1, zs.set i ({ z with pages := x23 } : Bk)) ⟨by first | omega | (simp only []; omega), by rw [List.length_set]; exact hi2, by rw [bvs_set, ← hi3, show bv ({ z with pages := x23 } : Bk) = bv z from by rw [bv, bv, hp23], ← bvs_set, set_id hz], fun j hj => by rw [List.getElem?_set_ne (by first | omega | (simp only []; omega))]; exact hi4 j (by first | omega | (simp only []; omega))⟩ (by simp only; omega) (Sub.cons rfl (Sub.cons rfl (Sub.cons rfl (Sub.cons rfl (Sub.nil _))))) (fun w hw => by
   have h1 := Mem.bagSnoc (e := pgE x23) (es := (zs.take i).map fun b : Bk => pgE b.pages) (Keep.mem hw : Mem _ (pgE x23 :: Ent.all ((zs.take i).map fun b : Bk => pgE b.pages) :: [own bkcells 4 x6 (zs.set i ({ z with pages := x23 } : Bk)), blk b2 (cpcells zCp) 25, blk b1 (cpcells (⟨c.pages, c.size, ⟨x6, zs⟩, c.ops, c.off, c.faults⟩ : Cp)) 25]) _)
   rw [bag_next (z' := ({ z with pages := x23 } : Bk)) hz] at h1
   exact (Keep.mem h1 : Mem _ [own bkcells 4 x6 (zs.set i ({ z with pages := x23 } : Bk)), Ent.all (((zs.set i ({ z with pages := x23 } : Bk)).take (i + 1)).map fun b : Bk => pgE b.pages), blk b2 (cpcells zCp) 25, blk b1 (cpcells (⟨c.pages, c.size, ⟨x6, zs⟩, c.ops, c.off, c.faults⟩ : Cp)) 25] _))
 ·
  try simp only [Z0, Z1, Z2, Z3, Z4, Z5, Z6, Z7, Z8, Z9] at h0
  obtain rfl : i = zs.length := by omega
  rw [List.take_of_length_le (Nat.le_refl _)] at *
  refine cw_exit ?_
  refine ex_pass_exit ?_
  refine ex_pass_exit ?_
  refine ex_block_hit ?_
  refine ex_then ?_
  refine cw_seq ?_
  refine cw_region ?_
  refine sq_r (ry_field (o' := 5) rfl rfl) ?_
  refine sq_r (Ry.to (v' := c.faults.sv.val) (ry_cellc rfl) rfl) ?_
  refine sq_callC rfl (by omega) fun x29 hp29 => ?_
  refine sq_r (ry_field (o' := 5) rfl rfl) ?_
  refine sq_store (cs' := cpcells (⟨c.pages, c.size, ⟨x6, zs⟩, c.ops, c.off, ⟨x29, c.faults.xs⟩⟩ : Cp)) rfl rfl (by show 5 < 6; decide) (by first | rfl | exact Sv.one _) rfl ?_
  refine sq_nil ?_
  refine ex_then ?_
  refine cw_seq ?_
  refine cw_region ?_
  refine sq_r (ry_whole rfl) ?_
  refine sq_storeW rfl rfl ?_
  refine sq_nil ?_
  refine ex_then ?_
  refine cw_ret ?_
  refine ex_ret (.inl rfl) (res_1 rfl (rv_agg rfl)) (fun w1 hw => ?_)
  exact ⟨⟨c.pages, c.size, ⟨x6, zs⟩, c.ops, c.off, ⟨x29, c.faults.xs⟩⟩, rfl, by simp only [cv, hi3], Keep.mem hw⟩
instance cclone_i {w0 : World} {L : List Ent} {c : Cp} [hc : HdD w0 L c] : FnC Tryz.prog 67 w0 L [.agg (cpcells c)] (Cp) (fun zz => .agg (cpcells zz)) (fun zz => own bkcells 4 zz.blocks.sv zz.blocks.xs :: Ent.all (zz.blocks.xs.map fun b : Bk => pgE b.pages) :: own ftcells 4 zz.faults.sv zz.faults.xs :: L) (fun zz => cv zz = cv c) (smallC c) := ⟨fun hp w hw => (cclone_c w c (hc.h w hw) hp).mono fun e w' ⟨x, h1, h2, h3⟩ => ⟨x, h1, h2, hw.call h3⟩⟩
theorem chas_c (w : World) (c : Cp) (b : Int) (hc : Deep.good (hp w) c) : Calls Tryz.prog 159 #[.agg (cpcells c), .int .i64 b] w fun e w' => e = .returned (.bool (hasF (cv c) b)) ∧ Mem w [] w' := by
 have ghc : GvD w c := ⟨hc⟩
 refine calls_of (args := [_, _]) Tryz.func159 rfl Tryz.ntmps159 rfl ?_
 change Cw _ _ _ _ _ [(0, .agg (cpcells c)), (1, .int .i64 b)] []
 refine cw_seq ?_
 refine cw_region ?_
 refine sq_boxA rfl fun b2 => ?_
 refine sq_r (ry_assign rfl) ?_
 refine sq_nil ?_
 refine ex_then ?_
 refine cw_seq ?_
 refine cw_region ?_
 refine sq_r (ry_whole rfl) ?_
 refine sq_y (yl_callC rfl trivial) ?_
 refine sq_r (ry_move rfl) ?_
 refine sq_gt rfl rfl rfl (fun hg => (Ry.yl (ry_move rfl))) ?_
 refine sq_gt rfl rfl rfl (fun hg => (Ry.yl (ry_int (ev_c hg rfl) rfl rfl))) ?_
 refine sq_r (ry_and rfl rfl rfl) ?_
 refine sq_r (ry_move rfl) ?_
 refine sq_gt rfl rfl rfl (fun hg => (Ry.yl (ry_move rfl))) ?_
 refine sq_gt rfl rfl rfl (fun hg => (Ry.yl (ry_field (o' := 2) rfl rfl))) ?_
 refine sq_gt rfl rfl rfl (fun hg => (Ry.yl (ry_cellc (ev_c hg rfl)))) ?_
 refine sq_gt rfl rfl rfl (fun hg => (Ry.yl (ry_lenH (ev_c hg rfl)))) ?_
 refine sq_gt rfl rfl rfl (fun hg => (Ry.yl (ry_int (ev_c hg rfl) (ev_c hg rfl) rfl))) ?_
 refine sq_r (ry_and rfl rfl rfl) ?_
 refine sq_r (ry_assign rfl) ?_
 refine sq_nil ?_
 refine ex_then ?_
 refine cw_ret ?_
 refine ex_ret (.inl rfl) (res_1 rfl (rv_tmp rfl)) (fun w1 hw => ?_)
 exact ⟨congrArg (fun b => Ending.returned (Value.bool b)) ((by simp only [hasF, cv, bvs_length])), Keep.mem hw⟩
instance chas_i {w0 : World} {L : List Ent} {c : Cp} {b : Int} [hc : HdD w0 L c] : FnQ Tryz.prog 159 w0 L [.agg (cpcells c), .int .i64 b] (.bool (hasF (cv c) b)) (True) := ⟨fun hp w hw => chas_c w c b (hc.h w hw)⟩
theorem cstrikes_c (w : World) (c : Cp) (hc : Deep.good (hp w) c) (hpre : c.faults.xs.length ≤ 1000000) : Calls Tryz.prog 160 #[.agg (cpcells c)] w fun e w' => e = .returned (.tuple #[.agg (ftcells ((strikesF (cv c)).1)), .bool ((strikesF (cv c)).2)]) ∧ Mem w [] w' := by
 have ghc : GvD w c := ⟨hc⟩
 refine calls_of (args := [_]) Tryz.func160 rfl Tryz.ntmps160 rfl ?_
 change Cw _ _ _ _ _ [(0, .agg (cpcells c))] []
 refine cw_seq ?_
 refine cw_region ?_
 refine sq_boxA rfl fun b1 => ?_
 refine sq_allocA fun b2 => ?_
 refine sq_r (ry_assign rfl) ?_
 refine sq_nil ?_
 refine ex_then ?_
 refine cw_seq ?_
 refine cw_seq ?_
 refine cw_region ?_
 refine sq_r (ry_field (o' := 5) rfl rfl) ?_
 refine sq_r (ry_cellc rfl) ?_
 refine sq_r (ry_lenH rfl) ?_
 refine sq_r (ry_move rfl) ?_
 refine sq_nil ?_
 refine ex_then ?_
 refine cw_block ?_
 refine cw_loop (X := Nat) (fun zz => [(9, .int .i64 (zz : Nat)), (1, .pointer (some ⟨b1, 0, none⟩)), (2, .pointer (some ⟨b2, 0, none⟩)), (7, c.faults.sv.val), (8, .int .i64 (c.faults.xs.length : Nat))]) (fun zz => [blk b2 (ftcells zFt) 94, blk b1 (cpcells c) 25]) (fun zz => zz ≤ c.faults.xs.length ∧ ∀ j f, j < zz → c.faults.xs[j]? = Option.some f → f.op ≠ c.ops) (fun zz => c.faults.xs.length - zz) 0 ⟨Nat.zero_le _, fun j f hj => by first | omega | (simp only []; omega)⟩ (Sub.cons rfl (Sub.cons rfl (Sub.cons rfl (Sub.cons rfl (Sub.cons rfl (Sub.nil _)))))) (fun w hw => Keep.mem hw) ?_
 rintro i ⟨hi1, hi2⟩
 refine cw_seq ?_
 refine cw_region ?_
 refine sq_r (ry_int rfl rfl rfl) ?_
 refine sq_nil ?_
 refine ex_then ?_
 refine cw_seq ?_
 refine cw_cond rfl (fun h0 => ?_) (fun h0 => ?_)
 ·
  try simp only [Z0, Z1, Z2, Z3, Z4, Z5, Z6, Z7, Z8, Z9] at h0
  refine cw_skip ?_
  refine ex_then ?_
  refine cw_seq ?_
  refine cw_block ?_
  refine cw_seq ?_
  refine cw_region ?_
  obtain ⟨f, hf⟩ := get_some (xs := c.faults.xs) (i := i) (by omega)
  refine sq_r (ry_idxH rfl rfl i rfl (by omega)) ?_
  refine sq_r (ry_elemH rfl i hf rfl) ?_
  refine sq_allocA fun b5 => ?_
  refine sq_storeW rfl rfl ?_
  refine sq_nil ?_
  refine ex_then ?_
  refine cw_seq ?_
  refine cw_region ?_
  refine sq_r (ry_field (o' := 0) rfl rfl) ?_
  refine sq_r (ry_cellc rfl) ?_
  refine sq_r (ry_field (o' := 3) rfl rfl) ?_
  refine sq_r (ry_cellc rfl) ?_
  refine sq_r (ry_int rfl rfl rfl) ?_
  refine sq_nil ?_
  refine ex_then ?_
  refine cw_cond rfl (fun h1 => ?_) (fun h1 => ?_)
  ·
   try simp only [Z0, Z1, Z2, Z3, Z4, Z5, Z6, Z7, Z8, Z9] at h1
   have hs : strikesF (cv c) = (f, f.cut || f.fail) := strikes_some hf hi2 h1
   refine cw_seq ?_
   refine cw_lin [7] [[], [], [], [], [], [], [], [], [7]] [0, 1, 2, 3, 4, 5, 6, 7, 8] [blk b5 (ftcells f) 94, blk b1 (cpcells c) 25] (fun _ hw => Keep.mem hw) (by kernel_rfl) (by kernel_rfl) ?_
   refine ln_r rfl (ry_whole rfl) ?_
   refine ln_r rfl (ry_field (o' := 2) rfl rfl) ?_
   refine ln_r rfl (ry_cellc rfl) ?_
   refine ln_r rfl (ry_move rfl) ?_
   refine ln_gf rfl rfl rfl rfl (fun hg => (Ry.yl (ry_field (o' := 1) rfl rfl))) ?_
   refine ln_gf rfl rfl rfl rfl (fun hg => (Ry.yl (ry_cellc (ev_c hg rfl)))) ?_
   refine ln_r rfl (ry_or rfl rfl rfl) ?_
   refine ln_st rfl (st_storeW rfl rfl ⟨fun _ hw => Keep.mem hw, ?_⟩)
   refine ln_r rfl (ry_assign rfl) ?_
   refine ln_nil ?_
   refine ex_then ?_
   refine cw_ret ?_
   refine ex_block_ret ?_
   refine ex_pass_ret ?_
   refine ex_pass_ret ?_
   refine ex_block_ret ?_
   refine ex_pass_ret ?_
   refine ex_ret (.inl rfl) (res_2 rfl (rv_agg rfl) (rv_tmp rfl)) (fun w1 hw => ?_)
   exact ⟨(by rw [hs]), Keep.mem hw⟩
  ·
   try simp only [Z0, Z1, Z2, Z3, Z4, Z5, Z6, Z7, Z8, Z9] at h1
   refine cw_skip ?_
   refine ex_block ?_
   refine ex_then ?_
   refine cw_region ?_
   refine sq_r (ry_add rfl rfl (by omega)) ?_
   refine sq_r (ry_move rfl) ?_
   refine sq_nil ?_
   exact ex_again (x := (i)) (i + 1) ⟨by first | omega | (simp only []; omega), fun j g hj hg => if e : j = i then (by subst e; rw [hf] at hg; cases hg; exact h1) else hi2 j g (by first | omega | (simp only []; omega)) hg⟩ (by first | omega | (simp only []; omega)) (Sub.cons rfl (Sub.cons rfl (Sub.cons rfl (Sub.cons rfl (Sub.cons rfl (Sub.nil _)))))) (fun w hw => Keep.mem hw)
 ·
  try simp only [Z0, Z1, Z2, Z3, Z4, Z5, Z6, Z7, Z8, Z9] at h0
  obtain rfl : i = c.faults.xs.length := by omega
  have hs : strikesF (cv c) = (zFt, false) := strikes_none (fun f hf => by
   obtain ⟨j, hj⟩ := List.getElem?_of_mem hf
   exact hi2 j f (List.getElem?_eq_some_iff.1 hj).1 hj)
  refine cw_exit ?_
  refine ex_pass_exit ?_
  refine ex_pass_exit ?_
  refine ex_block_hit ?_
  refine ex_then ?_
  refine cw_seq ?_
  refine cw_region ?_
  refine sq_r (ry_build (v := .agg (ftcells zFt)) rfl (fun w => by kernel_rfl)) ?_
  refine sq_storeW rfl rfl ?_
  refine sq_r (ry_assign rfl) ?_
  refine sq_nil ?_
  refine ex_then ?_
  refine cw_ret ?_
  refine ex_ret (.inl rfl) (res_2 rfl (rv_agg rfl) (rv_tmp rfl)) (fun w1 hw => ?_)
  exact ⟨(by rw [hs]), Keep.mem hw⟩
instance cstrikes_i {w0 : World} {L : List Ent} {c : Cp} [hc : HdD w0 L c] : FnQ Tryz.prog 160 w0 L [.agg (cpcells c)] (.tuple #[.agg (ftcells ((strikesF (cv c)).1)), .bool ((strikesF (cv c)).2)]) (c.faults.xs.length ≤ 1000000) := ⟨fun hp w hw => cstrikes_c w c (hc.h w hw) hp⟩
theorem cstruck_c (w : World) (f : Ft)  : Calls Tryz.prog 161 #[.agg (ftcells f)] w fun e w' => e = .returned (.tuple #[.bool f.cut, .int .i64 (struckE f)]) ∧ Mem w [] w' := by
 refine calls_of (args := [_]) Tryz.func161 rfl Tryz.ntmps161 rfl ?_
 change Cw _ _ _ _ _ [(0, .agg (ftcells f))] []
 refine cw_seq ?_
 refine cw_region ?_
 refine sq_boxA rfl fun b1 => ?_
 refine sq_r (ry_assign rfl) ?_
 refine sq_r (ry_assign rfl) ?_
 refine sq_nil ?_
 refine ex_then ?_
 refine cw_seq ?_
 refine cw_seq ?_
 refine cw_region ?_
 refine sq_r (ry_field (o' := 2) rfl rfl) ?_
 refine sq_r (ry_cellc rfl) ?_
 refine sq_nil ?_
 refine ex_then ?_
 refine cw_cond rfl (fun h0 => ?_) (fun h0 => ?_)
 ·
  try simp only [Z0, Z1, Z2, Z3, Z4, Z5, Z6, Z7, Z8, Z9] at h0
  refine cw_seq ?_
  refine cw_region ?_
  refine sq_r (ry_assign rfl) ?_
  refine sq_r (ry_assign rfl) ?_
  refine sq_nil ?_
  refine ex_then ?_
  refine cw_ret ?_
  refine ex_pass_ret ?_
  refine ex_ret (.inl rfl) (res_2 rfl (rv_tmp rfl) (rv_tmp rfl)) (fun w1 hw => ?_)
  exact ⟨(by rw [struckE, if_pos h0, h0]), Keep.mem hw⟩
 ·
  try simp only [Z0, Z1, Z2, Z3, Z4, Z5, Z6, Z7, Z8, Z9] at h0
  refine cw_skip ?_
  refine ex_then ?_
  refine cw_seq ?_
  refine cw_region ?_
  refine sq_r (ry_assign rfl) ?_
  refine sq_r (ry_assign rfl) ?_
  refine sq_nil ?_
  refine ex_then ?_
  refine cw_ret ?_
  refine ex_ret (.inl rfl) (res_2 rfl (rv_tmp rfl) (rv_tmp rfl)) (fun w1 hw => ?_)
  exact ⟨(by rw [struckE, if_neg (by rw [h0]; simp), h0]), Keep.mem hw⟩
instance cstruck_i {w0 : World} {L : List Ent} {f : Ft}  : FnQ Tryz.prog 161 w0 L [.agg (ftcells f)] (.tuple #[.bool f.cut, .int .i64 (struckE f)]) (True) := ⟨fun hp w hw => cstruck_c w f ⟩

end Go.Proofs.YtaipiecplldinaaGreat

/- The complement of a number of 32 bits; steps of the sum. -/
namespace Go.Eng
open Go.Kb
section
variable {P : Program} {N : Fra} {w0 : World} {env : Env} {L : List Ent} {d : Option Tmp} {ty : TypeId} {ps : String} {af : Array Edge} {gd : Option (Nat × Bool)}
theorem compl_nat {p : Nat} (h : p < 2 ^ 32) : 4294967295 ^^^ p = 4294967295 - p := by
 have e : (BitVec.allOnes 32 ^^^ BitVec.ofNat 32 p).toNat = (~~~ (BitVec.ofNat 32 p)).toNat := by rw [BitVec.allOnes_xor]
 rw [BitVec.toNat_xor, BitVec.toNat_not, BitVec.toNat_allOnes, BitVec.toNat_ofNat, Nat.mod_eq_of_lt h] at e
 simpa using e
theorem ry_compl32 {x : Operand} {a : Int} {p : Nat} {t : TypeId} (hx : ev env x = some (.int .u32 a)) (ea : a = (p : Int)) (hp : p < 2 ^ 32) :
  Ry P N w0 env L ⟨d, .unOp .xor t x, ty, ps, af, gd⟩ (.int .u32 ((4294967295 - p : Nat) : Int)) := fun a w ha _ => by
 subst ea
 have h1 : (Op.intBits .xor .u32 4294967295 (p : Int)).run P w = .ok (.int .u32 ((4294967295 - p : Nat) : Int)) w := by
  have e2 : (BitVec.ofInt 32 4294967295 ^^^ BitVec.ofInt 32 (p : Int)).toNat = 4294967295 - p := by
   rw [ofInt_nat, BitVec.toNat_xor, BitVec.toNat_ofNat, Nat.mod_eq_of_lt hp, ← compl_nat hp]; rfl
  show Sem.run P (pure (Value.int .u32 (IntKind.u32.wrap ((BitVec.ofInt 32 4294967295 ^^^ BitVec.ofInt 32 (p : Int)).toNat : Int)))) w = _
  rw [e2, wrap_nat (k := .u32) (by show 4294967295 - p < 4294967296; omega)]; rfl
 have h2 : Op.unary .xor (.int .u32 (p : Int)) = Op.intBits .xor .u32 4294967295 (p : Int) := rfl
 simp only [execOp, ha.ev hx, h2, Sem.run_bind, h1, Sem.run_pure, Result.andThen]
theorem ry_shl64 {x y : Operand} {p : Nat} {a : Int} {k' : IntKind} {t u : TypeId} (hx : ev env x = some (.int .u64 a)) (hy : ev env y = some (.int k' 8)) (ea : a = (p : Int)) (hp : p * 256 < 2 ^ 64) :
  Ry P N w0 env L ⟨d, .binOp .shl t x y u, ty, ps, af, gd⟩ (.int .u64 ((p * 256 : Nat) : Int)) := by
 subst ea
 have h := ry_shl (P := P) (N := N) (w0 := w0) (L := L) (d := d) (ty := ty) (ps := ps) (af := af) (gd := gd) (t := t) (u := u) hx hy (by decide)
 have e : IntKind.u64.wrap ((p : Int) * 2 ^ min (Int.toNat 8) IntKind.u64.bits) = ((p * 256 : Nat) : Int) := by
  have e1 : (p : Int) * 2 ^ min (Int.toNat 8) IntKind.u64.bits = ((p * 256 : Nat) : Int) := by
   rw [show (2 : Int) ^ min (Int.toNat 8) IntKind.u64.bits = 256 from by decide]; omega
  rw [e1]; exact wrap_nat hp
 rw [e] at h; exact h
theorem be_fill {n many i : Nat} (h : i < many) : (List.replicate (many - i) (0 : UInt8) ++ be n i).set (many - 1 - i) (b8 (n / 256 ^ i)) = List.replicate (many - (i + 1)) 0 ++ be n (i + 1) := by
 rw [List.set_append_left _ _ (by simp; omega)]
 have e : List.replicate (many - i) (0 : UInt8) = List.replicate (many - (i + 1)) 0 ++ [0] := by
  rw [show many - i = many - (i + 1) + 1 by omega, List.replicate_succ', ]
 rw [e, List.set_append_right _ _ (by simp; omega)]
 simp only [List.length_replicate, show many - 1 - i - (many - (i + 1)) = 0 by omega, List.set_cons_zero, List.append_assoc]
 rfl
end
end Go.Eng

/- What stands in a page: told and read. No program in sight. -/
namespace Go.Kb
open Go.Eng
structure PV where
 kind : Int
 id : Int
 gen : Nat
 body : List UInt8
 deriving DecidableEq
def zPV : PV := ⟨0, 0, 0, []⟩
def pvv (p : Pge) : PV := ⟨p.kind, p.id, p.gen.toNat, p.body.xs⟩
def fitsF (n : Int) : Bool := decide (24 ≤ n) && decide (n ≤ 256)
theorem fitsF_iff {n : Int} : fitsF n = true ↔ 24 ≤ n ∧ n ≤ 256 := by simp only [fitsF, Bool.and_eq_true, decide_eq_true_eq]
def roomF (n : Int) : Int := if fitsF n = true then n - 16 else 0
def mayF (p : PV) (n : Int) : Bool := fitsF n && (decide (p.kind = 1) || decide (p.kind = 2)) && decide (0 ≤ p.id) && decide (p.id < 64) && decide (p.gen < 281474976710656) && decide ((p.body.length : Int) ≤ roomF n)
theorem mayF_iff {p : PV} {n : Int} : mayF p n = true ↔ fitsF n = true ∧ (p.kind = 1 ∨ p.kind = 2) ∧ 0 ≤ p.id ∧ p.id < 64 ∧ p.gen < 281474976710656 ∧ (p.body.length : Int) ≤ roomF n := by
 simp only [mayF, Bool.and_eq_true, Bool.or_eq_true, decide_eq_true_eq, and_assoc]
def blankF (b : List UInt8) : Bool := b.all fun x => decide (x = 255)
theorem blankF_iff {b : List UInt8} : blankF b = true ↔ ∀ x ∈ b, x = 255 := by simp only [blankF, List.all_eq_true, decide_eq_true_eq]
def pageB (p : PV) (n : Nat) : List UInt8 := [b8i p.kind, b8i p.id] ++ be p.gen 6 ++ be p.body.length 2 ++ p.body ++ List.replicate (n - 4 - 10 - p.body.length) 0
def putF (p : PV) (n : Int) : List UInt8 × Int := if mayF p n = true then (pageB p n.toNat ++ be (crc (pageB p n.toNat)) 4, 0) else ([], 1)
def headP (b : List UInt8) : PV := ⟨(b.getD 0 0).toNat, (b.getD 1 0).toNat, de ((b.drop 2).take (8 - 2)), []⟩
def manyP (b : List UInt8) : Nat := de ((b.drop 8).take (10 - 8))
def innerP (b : List UInt8) : List UInt8 := (b.drop 0).take (b.length - 4 - 0)
def endP (b : List UInt8) : List UInt8 := (b.drop (b.length - 4)).take (b.length - (b.length - 4))
def restP (b : List UInt8) : List UInt8 := ((innerP b).drop (10 + manyP b)).take ((innerP b).length - (10 + manyP b))
def zerosF (b : List UInt8) : Bool := b.all fun x => decide (x = 0)
theorem zerosF_iff {b : List UInt8} : zerosF b = true ↔ ∀ x ∈ b, x = 0 := by simp only [zerosF, List.all_eq_true, decide_eq_true_eq]
def formF (b : List UInt8) : Bool := decide ((manyP b : Int) ≤ roomF b.length) && mayF (headP b) b.length
def readF (b : List UInt8) : PV × Int :=
 if fitsF b.length = false then (zPV, 3)
 else if blankF b = true then (zPV, 0)
 else if de (endP b) ≠ crc (innerP b) then (zPV, 4)
 else if formF b = false then (zPV, 2)
 else if zerosF (restP b) = false then (zPV, 2)
 else ({ headP b with body := (b.drop 10).take (10 + manyP b - 10) }, 0)
theorem manyP_lt (b : List UInt8) : manyP b < 65536 := by
 have h := de_all ((b.drop 8).take (10 - 8))
 have h2 : ((b.drop 8).take (10 - 8)).length ≤ 2 := by rw [List.length_take]; omega
 have h3 := Nat.pow_le_pow_right (show 0 < 256 by decide) h2
 rw [manyP]; omega
theorem headP_lt (b : List UInt8) : de ((b.drop 2).take (8 - 2)) < 281474976710656 := by
 have h := de_all ((b.drop 2).take (8 - 2))
 have h2 : ((b.drop 2).take (8 - 2)).length ≤ 6 := by rw [List.length_take]; omega
 have h3 := Nat.pow_le_pow_right (show 0 < 256 by decide) h2
 omega
def headG (b : List UInt8) : Pge := ⟨(b.getD 0 0).toNat, (b.getD 1 0).toNat, UInt64.ofNat (de ((b.drop 2).take (8 - 2))), ⟨Sv.none, []⟩⟩
theorem headG_gen (b : List UInt8) : (UInt64.ofNat (de ((b.drop 2).take (8 - 2)))).toNat = de ((b.drop 2).take (8 - 2)) := by
 have := headP_lt b
 rw [UInt64.toNat_ofNat']; omega
theorem headG_pv (b : List UInt8) (s : Sv) (l : List UInt8) : pvv { headG b with body := ⟨s, l⟩ } = { headP b with body := l } := by
 simp only [pvv, headG, headG_gen]; rfl
theorem headG_pv0 (b : List UInt8) : pvv (headG b) = headP b := headG_pv b Sv.none []
theorem innerP_len (b : List UInt8) : (innerP b).length = b.length - 4 := by rw [innerP, List.length_take, List.length_drop]; omega
theorem lay_first {M : Nat} {k d : UInt8} (h : 2 ≤ M) : ((List.replicate M (0 : UInt8)).set 0 k).set 1 d = [k, d] ++ List.replicate (M - 2) 0 := by
 obtain ⟨m, rfl⟩ : ∃ m, M = m + 2 := ⟨M - 2, by omega⟩
 simp [List.replicate_succ]
theorem lay_next {A Y : List UInt8} {k N : Nat} (hk : k = A.length) : (A ++ List.replicate N 0).take k ++ (Y ++ (A ++ List.replicate N 0).drop (k + Y.length)) = A ++ Y ++ List.replicate (N - Y.length) 0 := by
 subst hk
 rw [List.take_left', List.drop_append, List.drop_eq_nil_of_le (by omega), Nat.add_sub_cancel_left, List.drop_replicate, List.nil_append, List.append_assoc]
 rfl
theorem pageB_len {p : PV} {n : Nat} (h : p.body.length + 14 ≤ n) : (pageB p n).length = n - 4 := by
 simp only [pageB, List.length_append, be_length, List.length_replicate, List.length_cons, List.length_nil]; omega
theorem readF_len (b : List UInt8) : (readF b).1.body.length ≤ 65536 := by
 have h := manyP_lt b
 rw [readF]
 split
 ·
  simp [zPV]
 ·
  split
  ·
   simp [zPV]
  ·
   split
   ·
    simp [zPV]
   ·
    split
    ·
     simp [zPV]
    ·
     split
     ·
      simp [zPV]
     ·
      simp only [List.length_take]; omega
end Go.Kb

/- Sums. -/
namespace Go.Proofs.YtaipiecplldinaaGreat
open Go.Eng Go.Kb
open Go.RowKit
theorem sumOn_c (w : World) (b : Sv) (bs : List UInt8) (hb : Lies benc 1 (hp w) b bs) : Calls Tryz.prog 155 #[.int .u32 0, b.val] w fun e w' => e = .returned (.int .u32 (crc bs : Nat)) ∧ Mem w [] w' := by
 have ghb : Gv w b benc 1 bs := ⟨hb⟩
 have hbd := hb.bd
 refine calls_of (args := [_, _]) Tryz.func155 rfl Tryz.ntmps155 rfl ?_
 change Cw _ _ _ _ _ [(0, .int .u32 0), (1, b.val)] []
 refine cw_seq ?_
 refine cw_region ?_
 refine sq_r (ry_assign rfl) ?_
 refine sq_nil ?_
 refine ex_then ?_
 refine cw_seq ?_
 refine cw_region ?_
 refine sq_r (ry_move rfl) ?_
 refine sq_r (ry_compl32 (p := 0) rfl rfl (by decide)) ?_
 refine sq_r (ry_assign rfl) ?_
 refine sq_nil ?_
 refine ex_then ?_
 refine cw_seq ?_
 refine cw_seq ?_
 refine cw_region ?_
 refine sq_r (ry_move rfl) ?_
 refine sq_r (ry_lenH rfl) ?_
 refine sq_r (ry_move rfl) ?_
 refine sq_nil ?_
 refine ex_then ?_
 refine cw_block ?_
 refine cw_loop (X := Nat) (fun zz => [(13, .int .i64 (zz : Nat)), (5, .int .u32 (crcS 4294967295 (bs.take zz) : Nat)), (11, b.val), (12, .int .i64 (bs.length : Nat))]) (fun zz => []) (fun zz => zz ≤ bs.length) (fun zz => bs.length - zz) 0 (Nat.zero_le _) (Sub.cons rfl (Sub.cons rfl (Sub.cons rfl (Sub.cons rfl (Sub.nil _))))) (fun w hw => Keep.mem hw) ?_
 rintro i hi
 have hlt : crcS 4294967295 (bs.take i) < 2 ^ 32 := crcS_lt (by decide) _
 refine cw_seq ?_
 refine cw_region ?_
 refine sq_r (ry_int rfl rfl rfl) ?_
 refine sq_nil ?_
 refine ex_then ?_
 refine cw_seq ?_
 refine cw_cond rfl (fun h0 => ?_) (fun h0 => ?_)
 ·
  try simp only [Z0, Z1, Z2, Z3, Z4, Z5, Z6, Z7, Z8, Z9] at h0
  obtain ⟨y, he⟩ := get_some (xs := bs) (i := i) (by omega)
  have hy := y.toNat_lt
  have hx0 : crcS 4294967295 (bs.take i) ^^^ y.toNat < 2 ^ 32 := Nat.xor_lt_two_pow (crcS_lt (by decide) _) (by omega)
  refine cw_skip ?_
  refine ex_then ?_
  refine cw_seq ?_
  refine cw_block ?_
  refine cw_seq ?_
  refine cw_region ?_
  refine sq_r (ry_idxH rfl rfl i rfl (by omega)) ?_
  refine sq_r (ry_elemcH (j := 0) rfl i he rfl (by decide)) ?_
  refine sq_r (ry_assign rfl) ?_
  refine sq_nil ?_
  refine ex_then ?_
  refine cw_seq ?_
  refine cw_region ?_
  refine sq_r (ry_move rfl) ?_
  refine sq_r (ry_move rfl) ?_
  refine sq_r (ry_convn rfl (by simp only [nb]; omega)) ?_
  refine sq_r (ry_bxor rfl rfl rfl rfl (by simp only [nb]; omega) (by simp only [nb]; omega)) ?_
  refine sq_r (ry_assign rfl) ?_
  refine sq_nil ?_
  refine ex_then ?_
  refine cw_seq ?_
  refine cw_region ?_
  refine sq_r (ry_move rfl) ?_
  refine sq_nil ?_
  refine ex_then ?_
  refine cw_block ?_
  refine cw_loop (X := Nat) (fun zz => [(21, .int .i64 (zz : Nat)), (5, .int .u32 ((crcN (crcS 4294967295 (bs.take i) ^^^ y.toNat) zz) : Nat)), (11, b.val), (12, .int .i64 (bs.length : Nat)), (13, .int .i64 (i : Nat))]) (fun zz => []) (fun zz => zz ≤ 8) (fun zz => 8 - zz) 0 (Nat.zero_le _) (Sub.cons rfl (Sub.cons rfl (Sub.cons rfl (Sub.cons rfl (Sub.cons rfl (Sub.nil _)))))) (fun w hw => Keep.mem hw) ?_
  rintro k hk
  refine cw_seq ?_
  refine cw_region ?_
  refine sq_r (ry_int rfl rfl rfl) ?_
  refine sq_nil ?_
  refine ex_then ?_
  refine cw_seq ?_
  refine cw_cond rfl (fun h1 => ?_) (fun h1 => ?_)
  ·
   try simp only [Z0, Z1, Z2, Z3, Z4, Z5, Z6, Z7, Z8, Z9] at h1
   have hk0 : (crcN (crcS 4294967295 (bs.take i) ^^^ y.toNat) k) < 2 ^ 32 := crcN_lt hx0 k
   have hk1 : (crcN (crcS 4294967295 (bs.take i) ^^^ y.toNat) k) / 2 < 2 ^ 32 := by omega
   refine cw_skip ?_
   refine ex_then ?_
   refine cw_seq ?_
   refine cw_block ?_
   refine cw_seq ?_
   refine cw_region ?_
   refine sq_r (ry_move rfl) ?_
   refine sq_r (Ry.to (v' := .int .u32 (((crcN (crcS 4294967295 (bs.take i) ^^^ y.toNat) k) % 2 : Nat) : Int)) (ry_band (p := (crcN (crcS 4294967295 (bs.take i) ^^^ y.toNat) k)) (q := 1) rfl rfl rfl rfl (by simp only [nb]; omega) (by decide)) (by rw [Nat.and_one_is_mod])) ?_
   refine sq_r (ry_assign rfl) ?_
   refine sq_nil ?_
   refine ex_then ?_
   refine cw_seq ?_
   refine cw_region ?_
   refine sq_r (ry_move rfl) ?_
   refine sq_r (ry_shr (p := (crcN (crcS 4294967295 (bs.take i) ^^^ y.toNat) k)) rfl rfl (by simp only [nb]; omega) (by omega)) ?_
   refine sq_r (ry_assign rfl) ?_
   refine sq_nil ?_
   refine ex_then ?_
   refine cw_region ?_
   refine sq_r (ry_move rfl) ?_
   refine sq_r (ry_move rfl) ?_
   refine sq_r (ry_muln (p := 3988292384) (q := (crcN (crcS 4294967295 (bs.take i) ^^^ y.toNat) k) % 2) rfl rfl rfl rfl (by simp only [nb]; omega)) ?_
   refine sq_r (Ry.to (v' := .int .u32 ((crcN (crcS 4294967295 (bs.take i) ^^^ y.toNat) (k + 1) : Nat) : Int)) (ry_bxor (p := (crcN (crcS 4294967295 (bs.take i) ^^^ y.toNat) k) / 2 ^ 1) (q := 3988292384 * ((crcN (crcS 4294967295 (bs.take i) ^^^ y.toNat) k) % 2)) rfl rfl rfl rfl (by simp only [nb]; omega) (by simp only [nb]; omega)) (by rw [crcN, crcT]; rcases Nat.mod_two_eq_zero_or_one (crcN (crcS 4294967295 (bs.take i) ^^^ y.toNat) k) with h | h <;> rw [h] <;> rfl)) ?_
   refine sq_r (ry_assign rfl) ?_
   refine sq_nil ?_
   refine ex_block ?_
   refine ex_then ?_
   refine cw_region ?_
   refine sq_r (ry_add rfl rfl (by omega)) ?_
   refine sq_r (ry_move rfl) ?_
   refine sq_nil ?_
   exact ex_again (x := (k)) (k + 1) (by first | omega | (simp only []; omega)) (by first | omega | (simp only []; omega)) (Sub.cons rfl (Sub.cons rfl (Sub.cons rfl (Sub.cons rfl (Sub.cons rfl (Sub.nil _)))))) (fun w hw => Keep.mem hw)
  ·
   try simp only [Z0, Z1, Z2, Z3, Z4, Z5, Z6, Z7, Z8, Z9] at h1
   obtain rfl : k = 8 := by omega
   refine cw_exit ?_
   refine ex_pass_exit ?_
   refine ex_pass_exit ?_
   refine ex_block_hit ?_
   refine ex_block ?_
   refine ex_then ?_
   refine cw_region ?_
   refine sq_r (ry_add rfl rfl (by omega)) ?_
   refine sq_r (ry_move rfl) ?_
   refine sq_nil ?_
   exact ex_again (x := (i)) (i + 1) (by first | omega | (simp only []; omega)) (by first | omega | (simp only []; omega)) (Sub.cons rfl (Sub.cons (look_eq rfl (by rw [crcS_snoc he]; rfl)) (Sub.cons rfl (Sub.cons rfl (Sub.nil _))))) (fun w hw => Keep.mem hw)
 ·
  try simp only [Z0, Z1, Z2, Z3, Z4, Z5, Z6, Z7, Z8, Z9] at h0
  obtain rfl : i = bs.length := by omega
  refine cw_exit ?_
  refine ex_pass_exit ?_
  refine ex_pass_exit ?_
  refine ex_block_hit ?_
  refine ex_then ?_
  refine cw_seq ?_
  refine cw_region ?_
  refine sq_r (ry_move rfl) ?_
  refine sq_r (ry_compl32 (p := crcS 4294967295 (bs.take bs.length)) rfl rfl (crcS_lt (by decide) _)) ?_
  refine sq_r (ry_assign rfl) ?_
  refine sq_nil ?_
  refine ex_then ?_
  refine cw_ret ?_
  refine ex_ret (.inl rfl) (res_1 rfl (rv_tmp rfl)) (fun w1 hw => ?_)
  exact ⟨(by rw [List.take_length]; rfl), Keep.mem hw⟩
instance sumOn_i {w0 : World} {L : List Ent} {b : Sv} {bs : List UInt8} [hb : HdE w0 L benc 1 b bs] : FnQ Tryz.prog 155 w0 L [.int .u32 0, b.val] (.int .u32 (crc bs : Nat)) (True) := ⟨fun hp w hw => sumOn_c w b bs (hb.h w hw)⟩
theorem sumOf_c (w : World) (b : Sv) (bs : List UInt8) (hb : Lies benc 1 (hp w) b bs) : Calls Tryz.prog 135 #[b.val] w fun e w' => e = .returned (.int .u32 (crc bs : Nat)) ∧ Mem w [] w' := by
 have ghb : Gv w b benc 1 bs := ⟨hb⟩
 refine calls_of (args := [_]) Tryz.func135 rfl Tryz.ntmps135 rfl ?_
 change Cw _ _ _ _ _ [(0, b.val)] []
 refine cw_seq ?_
 refine cw_region ?_
 refine sq_r (ry_assign rfl) ?_
 refine sq_nil ?_
 refine ex_then ?_
 refine cw_seq ?_
 refine cw_region ?_
 refine sq_r (ry_move rfl) ?_
 refine sq_y (yl_callC rfl trivial) ?_
 refine sq_r (ry_assign rfl) ?_
 refine sq_nil ?_
 refine ex_then ?_
 refine cw_ret ?_
 refine ex_ret (.inl rfl) (res_1 rfl (rv_tmp rfl)) (fun w1 hw => ?_)
 exact ⟨rfl, Keep.mem hw⟩
instance sumOf_i {w0 : World} {L : List Ent} {b : Sv} {bs : List UInt8} [hb : HdE w0 L benc 1 b bs] : FnQ Tryz.prog 135 w0 L [b.val] (.int .u32 (crc bs : Nat)) (True) := ⟨fun hp w hw => sumOf_c w b bs (hb.h w hw)⟩
theorem sumPut_c (w : World) (n : Nat) (many : Nat)  (hpre : n < 2 ^ 64 ∧ 1 ≤ many ∧ many ≤ 8) : Calls Tryz.prog 163 #[.int .u64 (n : Nat), .int .i64 (many : Nat)] w fun e w' => ∃ zz : Sv, e = .returned (zz.val) ∧ (True) ∧ Mem w [own benc 1 zz (be n many)] w' := by
 obtain ⟨hp1, hp2, hp3⟩ := hpre
 refine calls_of (args := [_, _]) Tryz.func163 rfl Tryz.ntmps163 rfl ?_
 change Cw _ _ _ _ _ [(0, .int .u64 (n : Nat)), (1, .int .i64 (many : Nat))] []
 refine cw_seq ?_
 refine cw_region ?_
 refine sq_r (ry_assign rfl) ?_
 refine sq_nil ?_
 refine ex_then ?_
 refine cw_seq ?_
 refine cw_seq ?_
 refine cw_region ?_
 refine sq_r (ry_move rfl) ?_
 refine sq_r (ry_int rfl rfl rfl) ?_
 refine sq_r (ry_move rfl) ?_
 refine sq_gf rfl rfl rfl (fun hg => (Ry.yl (ry_move rfl))) ?_
 refine sq_gf rfl rfl rfl (fun hg => (Ry.yl (ry_int (ev_c hg rfl) rfl rfl))) ?_
 refine sq_r (ry_or rfl rfl rfl) ?_
 refine sq_nil ?_
 refine ex_then ?_
 refine cw_cond rfl (fun h0 => ?_) (fun h0 => ?_)
 ·
  try simp only [Z0, Z1, Z2, Z3, Z4, Z5, Z6, Z7, Z8, Z9] at h0
  exfalso; omega
 ·
  try simp only [Z0, Z1, Z2, Z3, Z4, Z5, Z6, Z7, Z8, Z9] at h0
  refine cw_skip ?_
  refine ex_then ?_
  refine cw_seq ?_
  refine cw_region ?_
  refine sq_r (ry_move rfl) ?_
  refine sq_makeS (enc := benc) (n := many) (cap := many) 0 rfl rfl rfl rfl rfl (by omega) (by omega) (by omega) fun b14 => ?_
  refine sq_r (ry_assign rfl) ?_
  refine sq_nil ?_
  refine ex_then ?_
  refine cw_seq ?_
  refine cw_seq ?_
  refine cw_region ?_
  refine sq_r (ry_move rfl) ?_
  refine sq_r (Ry.to (v' := .int .i64 (many : Nat)) (ry_lenH rfl) (by simp)) ?_
  refine sq_r (ry_move rfl) ?_
  refine sq_nil ?_
  refine ex_then ?_
  refine cw_block ?_
  refine cw_loop (X := Nat) (fun zz => [(17, .int .i64 (zz : Nat)), (5, (⟨false, b14, 0, many, many, none⟩ : Sv).val), (0, .int .u64 (n : Nat)), (1, .int .i64 (many : Nat)), (16, .int .i64 (many : Nat))]) (fun zz => [own benc 1 ⟨false, b14, 0, many, many, none⟩ (List.replicate (many - zz) (0 : UInt8) ++ be n zz)]) (fun zz => zz ≤ many) (fun zz => many - zz) 0 (Nat.zero_le _) (Sub.cons rfl (Sub.cons rfl (Sub.cons rfl (Sub.cons rfl (Sub.cons rfl (Sub.nil _)))))) (fun w hw => by rw [show List.replicate (many - 0) (0 : UInt8) ++ be n 0 = List.replicate many 0 from by rw [be, List.append_nil, Nat.sub_zero]]; exact Keep.mem hw) ?_
  rintro i hi
  have hbl := be_length n i
  have hxl : (List.replicate (many - i) (0 : UInt8) ++ be n i).length = many := by rw [List.length_append, List.length_replicate, hbl]; omega
  refine cw_seq ?_
  refine cw_region ?_
  refine sq_r (ry_int rfl rfl rfl) ?_
  refine sq_nil ?_
  refine ex_then ?_
  refine cw_seq ?_
  refine cw_cond rfl (fun h1 => ?_) (fun h1 => ?_)
  ·
   try simp only [Z0, Z1, Z2, Z3, Z4, Z5, Z6, Z7, Z8, Z9] at h1
   refine cw_skip ?_
   refine ex_then ?_
   refine cw_seq ?_
   refine cw_block ?_
   refine cw_seq ?_
   refine cw_region ?_
   refine sq_r (ry_move rfl) ?_
   refine sq_r (ry_assign rfl) ?_
   refine sq_nil ?_
   refine ex_then ?_
   refine cw_region ?_
   refine sq_r (ry_move rfl) ?_
   refine sq_r (ry_move rfl) ?_
   refine sq_r (ry_sub rfl rfl (by omega)) ?_
   refine sq_r (ry_move rfl) ?_
   refine sq_r (ry_sub rfl rfl (by omega)) ?_
   refine sq_r (ry_move rfl) ?_
   refine sq_r (ry_move rfl) ?_
   refine sq_r (ry_mul rfl rfl (by omega)) ?_
   refine sq_r (Ry.to (v' := .int .u64 ((n / 256 ^ i : Nat) : Int)) (ry_shr (p := n) rfl rfl (by simp only [nb]; omega) (by omega)) (by rw [show (8 * (i : Int)).toNat = 8 * i by omega, Nat.pow_mul])) ?_
   refine sq_r (ry_conv8 rfl rfl) ?_
   refine sq_r (ry_idxH rfl rfl (many - 1 - i) (by omega) (by omega)) ?_
   refine sq_stU rfl rfl (by rw [List.getElem?_append_left (by rw [List.length_replicate]; omega), List.getElem?_replicate, if_pos (by omega)]) rfl ?_
   refine sq_nil ?_
   refine ex_block ?_
   refine ex_then ?_
   refine cw_region ?_
   refine sq_r (ry_add rfl rfl (by omega)) ?_
   refine sq_r (ry_move rfl) ?_
   refine sq_nil ?_
   exact ex_again (x := (i)) (i + 1) (by first | omega | (simp only []; omega)) (by first | omega | (simp only []; omega)) (Sub.cons rfl (Sub.cons rfl (Sub.cons rfl (Sub.cons rfl (Sub.cons rfl (Sub.nil _)))))) (fun w hw => by rw [be_fill (by omega)] at hw; exact Keep.mem hw)
  ·
   try simp only [Z0, Z1, Z2, Z3, Z4, Z5, Z6, Z7, Z8, Z9] at h1
   have him : i = many := by omega
   refine cw_exit ?_
   refine ex_pass_exit ?_
   refine ex_pass_exit ?_
   refine ex_block_hit ?_
   refine ex_then ?_
   refine cw_seq ?_
   refine cw_region ?_
   refine sq_r (ry_move rfl) ?_
   refine sq_r (ry_assign rfl) ?_
   refine sq_nil ?_
   refine ex_then ?_
   refine cw_ret ?_
   refine ex_ret (.inl rfl) (res_1 rfl (rv_tmp rfl)) (fun w1 hw => ?_)
   exact ⟨⟨false, b14, 0, many, many, none⟩, rfl, trivial, by rw [him, Nat.sub_self, List.replicate_zero, List.nil_append] at hw; exact Keep.mem hw⟩
instance sumPut_i {w0 : World} {L : List Ent} {n : Nat} {many : Nat}  : FnC Tryz.prog 163 w0 L [.int .u64 (n : Nat), .int .i64 (many : Nat)] (Sv) (fun zz => zz.val) (fun zz => own benc 1 zz (be n many) :: L) (fun zz => True) (n < 2 ^ 64 ∧ 1 ≤ many ∧ many ≤ 8) := ⟨fun hp w hw => (sumPut_c w n many  hp).mono fun e w' ⟨x, h1, h2, h3⟩ => ⟨x, h1, h2, hw.call h3⟩⟩
theorem sumGet_c (w : World) (b : Sv) (bs : List UInt8) (hb : Lies benc 1 (hp w) b bs) (hpre : bs.length ≤ 7) : Calls Tryz.prog 134 #[b.val] w fun e w' => e = .returned (.int .u64 (de bs : Nat)) ∧ Mem w [] w' := by
 have ghb : Gv w b benc 1 bs := ⟨hb⟩
 refine calls_of (args := [_]) Tryz.func134 rfl Tryz.ntmps134 rfl ?_
 change Cw _ _ _ _ _ [(0, b.val)] []
 refine cw_seq ?_
 refine cw_region ?_
 refine sq_r (ry_assign rfl) ?_
 refine sq_nil ?_
 refine ex_then ?_
 refine cw_seq ?_
 refine cw_region ?_
 refine sq_r (ry_assign rfl) ?_
 refine sq_nil ?_
 refine ex_then ?_
 refine cw_seq ?_
 refine cw_seq ?_
 refine cw_region ?_
 refine sq_r (ry_move rfl) ?_
 refine sq_r (ry_lenH rfl) ?_
 refine sq_r (ry_move rfl) ?_
 refine sq_nil ?_
 refine ex_then ?_
 refine cw_block ?_
 refine cw_loop (X := Nat) (fun zz => [(8, .int .i64 (zz : Nat)), (3, .int .u64 (de (bs.take zz) : Nat)), (6, b.val), (7, .int .i64 (bs.length : Nat))]) (fun zz => []) (fun zz => zz ≤ bs.length) (fun zz => bs.length - zz) 0 (Nat.zero_le _) (Sub.cons rfl (Sub.cons rfl (Sub.cons rfl (Sub.cons rfl (Sub.nil _))))) (fun w hw => Keep.mem hw) ?_
 rintro i hi
 refine cw_seq ?_
 refine cw_region ?_
 refine sq_r (ry_int rfl rfl rfl) ?_
 refine sq_nil ?_
 refine ex_then ?_
 refine cw_seq ?_
 refine cw_cond rfl (fun h0 => ?_) (fun h0 => ?_)
 ·
  try simp only [Z0, Z1, Z2, Z3, Z4, Z5, Z6, Z7, Z8, Z9] at h0
  obtain ⟨y, he⟩ := get_some (xs := bs) (i := i) (by omega)
  have hy := y.toNat_lt
  have hlt : de (bs.take i) < 256 ^ 6 := Nat.lt_of_lt_of_le (de_lt bs i hi) (Nat.pow_le_pow_right (by decide) (by omega))
  refine cw_skip ?_
  refine ex_then ?_
  refine cw_seq ?_
  refine cw_block ?_
  refine cw_seq ?_
  refine cw_region ?_
  refine sq_r (ry_idxH rfl rfl i rfl (by omega)) ?_
  refine sq_r (ry_elemcH (j := 0) rfl i he rfl (by decide)) ?_
  refine sq_r (ry_assign rfl) ?_
  refine sq_nil ?_
  refine ex_then ?_
  refine cw_region ?_
  refine sq_r (ry_move rfl) ?_
  refine sq_r (ry_shl64 (p := de (bs.take i)) rfl rfl rfl (by omega)) ?_
  refine sq_r (ry_move rfl) ?_
  refine sq_r (ry_convn rfl (by simp only [nb]; omega)) ?_
  refine sq_r (ry_bor (p := de (bs.take i) * 256) (q := y.toNat) rfl rfl rfl rfl (by simp only [nb]; omega) (by simp only [nb]; omega)) ?_
  refine sq_r (ry_assign rfl) ?_
  refine sq_nil ?_
  refine ex_block ?_
  refine ex_then ?_
  refine cw_region ?_
  refine sq_r (ry_add rfl rfl (by omega)) ?_
  refine sq_r (ry_move rfl) ?_
  refine sq_nil ?_
  exact ex_again (x := (i)) (i + 1) (by first | omega | (simp only []; omega)) (by first | omega | (simp only []; omega)) (Sub.cons rfl (Sub.cons (look_eq rfl (by rw [de_succ he, or_low _ _ hy])) (Sub.cons rfl (Sub.cons rfl (Sub.nil _))))) (fun w hw => Keep.mem hw)
 ·
  try simp only [Z0, Z1, Z2, Z3, Z4, Z5, Z6, Z7, Z8, Z9] at h0
  obtain rfl : i = bs.length := by omega
  refine cw_exit ?_
  refine ex_pass_exit ?_
  refine ex_pass_exit ?_
  refine ex_block_hit ?_
  refine ex_then ?_
  refine cw_seq ?_
  refine cw_region ?_
  refine sq_r (ry_move rfl) ?_
  refine sq_r (ry_assign rfl) ?_
  refine sq_nil ?_
  refine ex_then ?_
  refine cw_ret ?_
  refine ex_ret (.inl rfl) (res_1 rfl (rv_tmp rfl)) (fun w1 hw => ?_)
  exact ⟨(by rw [List.take_length]), Keep.mem hw⟩
instance sumGet_i {w0 : World} {L : List Ent} {b : Sv} {bs : List UInt8} [hb : HdE w0 L benc 1 b bs] : FnQ Tryz.prog 134 w0 L [b.val] (.int .u64 (de bs : Nat)) (bs.length ≤ 7) := ⟨fun hp w hw => sumGet_c w b bs (hb.h w hw) hp⟩
theorem growN_c (w : World) (n : Nat)  (hpre : n ≤ 1000000000) : Calls Tryz.prog 178 #[.slice none 0 0, .int .i64 (n : Nat)] w fun e w' => ∃ zz : Sv, e = .returned (zz.val) ∧ (True) ∧ Mem w [own benc 1 zz ([] : List UInt8)] w' := by
 refine calls_of (args := [_, _]) Tryz.func178 rfl Tryz.ntmps178 rfl ?_
 change Cw _ _ _ _ _ [(0, .slice none 0 0), (1, .int .i64 (n : Nat))] []
 refine cw_seq ?_
 refine cw_region ?_
 refine sq_r (ry_assign rfl) ?_
 refine sq_nil ?_
 refine ex_then ?_
 refine cw_seq ?_
 refine cw_seq ?_
 refine cw_region ?_
 refine sq_r (ry_move rfl) ?_
 refine sq_r (ry_int rfl rfl rfl) ?_
 refine sq_nil ?_
 refine ex_then ?_
 refine cw_cond rfl (fun h0 => ?_) (fun h0 => ?_)
 ·
  try simp only [Z0, Z1, Z2, Z3, Z4, Z5, Z6, Z7, Z8, Z9] at h0
  exfalso; omega
 ·
  try simp only [Z0, Z1, Z2, Z3, Z4, Z5, Z6, Z7, Z8, Z9] at h0
  refine cw_skip ?_
  refine ex_then ?_
  refine cw_seq ?_
  refine cw_seq ?_
  refine cw_region ?_
  refine sq_r (ry_move rfl) ?_
  refine sq_r (ry_move rfl) ?_
  refine sq_r (ry_capN rfl) ?_
  refine sq_r (ry_move rfl) ?_
  refine sq_r (ry_len_slice rfl) ?_
  refine sq_r (ry_sub rfl rfl (by omega)) ?_
  refine sq_r (ry_sub rfl rfl (by omega)) ?_
  refine sq_r (ry_assign rfl) ?_
  refine sq_nil ?_
  refine ex_then ?_
  refine cw_seq ?_
  refine cw_region ?_
  refine sq_r (ry_move rfl) ?_
  refine sq_r (ry_int rfl rfl rfl) ?_
  refine sq_nil ?_
  refine ex_then ?_
  refine cw_cond rfl (fun h1 => ?_) (fun h1 => ?_)
  ·
   try simp only [Z0, Z1, Z2, Z3, Z4, Z5, Z6, Z7, Z8, Z9] at h1
   refine cw_region ?_
   refine sq_r (ry_move rfl) ?_
   refine sq_r (ry_move rfl) ?_
   refine sq_r (ry_capN rfl) ?_
   refine sq_r (Ry.to (v' := .slice none 0 0) (ry_subS_hi (s := Sv.none) (h := 0) rfl rfl rfl Sv.none_ok (Nat.le_refl _)) rfl) ?_
   refine sq_r (ry_move rfl) ?_
   refine sq_appendN (enc := benc) (k := n) (0 : UInt8) rfl rfl (by omega) (by omega) (by decide) rfl Tryz.underlying3 (by omega) (by omega) fun b22 C22 hC22 => ?_
   refine sq_r (ry_move rfl) ?_
   refine sq_r (ry_len_slice rfl) ?_
   refine sq_r (ry_subS_hi (s := ⟨false, b22, 0, n, C22, none⟩) (h := 0) rfl rfl rfl ⟨(fun h => by cases h), hC22, by simp only; omega, fun _ => rfl⟩ (Nat.zero_le _)) ?_
   refine sq_r (ry_assign rfl) ?_
   refine sq_nil ?_
   refine ex_then ?_
   refine cw_seq ?_
   refine cw_region ?_
   refine sq_r (ry_move rfl) ?_
   refine sq_r (ry_assign rfl) ?_
   refine sq_nil ?_
   refine ex_then ?_
   refine cw_ret ?_
   refine ex_ret (.inl rfl) (res_1 rfl (rv_tmp rfl)) (fun w1 hw => ?_)
   refine ⟨Sv.sub ⟨false, b22, 0, n, C22, none⟩ 1 0 0, rfl, trivial, ?_⟩
   have hw2 := Mem.ownTake (i := 0) (k := 0) hw rfl (Nat.zero_le _)
   rw [List.take_zero] at hw2
   exact hw2
  ·
   try simp only [Z0, Z1, Z2, Z3, Z4, Z5, Z6, Z7, Z8, Z9] at h1
   have hn : n = 0 := by omega
   refine cw_skip ?_
   refine ex_then ?_
   refine cw_seq ?_
   refine cw_region ?_
   refine sq_r (ry_move rfl) ?_
   refine sq_r (ry_assign rfl) ?_
   refine sq_nil ?_
   refine ex_then ?_
   refine cw_ret ?_
   refine ex_ret (.inl rfl) (res_1 rfl (rv_tmp rfl)) (fun w1 hw => ?_)
   exact ⟨Sv.none, rfl, trivial, (Keep.mem hw : Mem w [] _).nilOwn benc 1⟩
instance growN_i {w0 : World} {L : List Ent} {n : Nat}  : FnC Tryz.prog 178 w0 L [.slice none 0 0, .int .i64 (n : Nat)] (Sv) (fun zz => zz.val) (fun zz => own benc 1 zz ([] : List UInt8) :: L) (fun zz => True) (n ≤ 1000000000) := ⟨fun hp w hw => (growN_c w n  hp).mono fun e w' ⟨x, h1, h2, h3⟩ => ⟨x, h1, h2, hw.call h3⟩⟩
theorem concatB_c (w : World) (a : Sl (Sl UInt8)) (ha : Deep.good (hp w) a) (hpre : (flatB a.xs).length ≤ 1000000) : Calls Tryz.prog 164 #[a.sv.val] w fun e w' => ∃ zz : Sv, e = .returned (zz.val) ∧ (True) ∧ Mem w [own benc 1 zz (flatB a.xs)] w' := by
 have gha : GvD w a := ⟨ha⟩
 have hab := ha.1.bd
 have hfl := flatB_le a.xs
 refine calls_of (args := [_]) Tryz.func164 rfl Tryz.ntmps164 rfl ?_
 change Cw _ _ _ _ _ [(0, a.sv.val)] []
 refine cw_seq ?_
 refine cw_region ?_
 refine sq_r (ry_assign rfl) ?_
 refine sq_nil ?_
 refine ex_then ?_
 refine cw_seq ?_
 refine cw_region ?_
 refine sq_r (ry_assign rfl) ?_
 refine sq_nil ?_
 refine ex_then ?_
 refine cw_seq ?_
 refine cw_seq ?_
 refine cw_region ?_
 refine sq_r (ry_move rfl) ?_
 refine sq_r (ry_lenH rfl) ?_
 refine sq_r (ry_move rfl) ?_
 refine sq_nil ?_
 refine ex_then ?_
 refine cw_block ?_
 refine cw_loop (X := Nat) (fun zz => [(11, .int .i64 (zz : Nat)), (3, .int .i64 ((flatB (a.xs.take zz)).length : Nat)), (0, a.sv.val), (9, a.sv.val), (10, .int .i64 (a.xs.length : Nat))]) (fun zz => []) (fun zz => zz ≤ a.xs.length) (fun zz => a.xs.length - zz) 0 (Nat.zero_le _) (Sub.cons rfl (Sub.cons rfl (Sub.cons rfl (Sub.cons rfl (Sub.cons rfl (Sub.nil _)))))) (fun w hw => Keep.mem hw) ?_
 rintro i hi
 have hf1 := hfl i
 have hf2 := hfl (i + 1)
 refine cw_seq ?_
 refine cw_region ?_
 refine sq_r (ry_int rfl rfl rfl) ?_
 refine sq_nil ?_
 refine ex_then ?_
 refine cw_seq ?_
 refine cw_cond rfl (fun h0 => ?_) (fun h0 => ?_)
 ·
  try simp only [Z0, Z1, Z2, Z3, Z4, Z5, Z6, Z7, Z8, Z9] at h0
  refine cw_skip ?_
  refine ex_then ?_
  refine cw_seq ?_
  refine cw_block ?_
  refine cw_seq ?_
  refine cw_region ?_
  obtain ⟨x, hx⟩ := get_some (xs := a.xs) (i := i) (by omega)
  refine sq_r (ry_idxH rfl rfl i rfl (by omega)) ?_
  refine sq_r (ry_elemcH (j := 0) rfl i hx rfl (by decide)) ?_
  have hfx : (flatB (a.xs.take (i + 1))).length = (flatB (a.xs.take i)).length + x.xs.length := by rw [flatB_snoc hx, List.length_append]
  have mb14 : Mb x _ := ⟨List.mem_of_getElem? hx⟩
  refine sq_r (ry_assign rfl) ?_
  refine sq_nil ?_
  refine ex_then ?_
  refine cw_seq ?_
  refine cw_region ?_
  refine sq_r (ry_move rfl) ?_
  refine sq_r (ry_move rfl) ?_
  refine sq_r (ry_lenH rfl) ?_
  refine sq_r (ry_add rfl rfl (by omega)) ?_
  refine sq_r (ry_assign rfl) ?_
  refine sq_nil ?_
  refine ex_then ?_
  refine cw_seq ?_
  refine cw_region ?_
  refine sq_r (ry_move rfl) ?_
  refine sq_r (ry_int rfl rfl rfl) ?_
  refine sq_nil ?_
  refine ex_then ?_
  refine cw_cond rfl (fun h1 => ?_) (fun h1 => ?_)
  ·
   try simp only [Z0, Z1, Z2, Z3, Z4, Z5, Z6, Z7, Z8, Z9] at h1
   exfalso; omega
  ·
   try simp only [Z0, Z1, Z2, Z3, Z4, Z5, Z6, Z7, Z8, Z9] at h1
   refine cw_skip ?_
   refine ex_block ?_
   refine ex_then ?_
   refine cw_region ?_
   refine sq_r (ry_add rfl rfl (by omega)) ?_
   refine sq_r (ry_move rfl) ?_
   refine sq_nil ?_
   exact ex_again (x := (i)) (i + 1) (by first | omega | (simp only []; omega)) (by first | omega | (simp only []; omega)) (Sub.cons rfl (Sub.cons (look_eq rfl (by rw [flatB_snoc hx, List.length_append]; simp)) (Sub.cons rfl (Sub.cons rfl (Sub.cons rfl (Sub.nil _)))))) (fun w hw => Keep.mem hw)
 ·
  try simp only [Z0, Z1, Z2, Z3, Z4, Z5, Z6, Z7, Z8, Z9] at h0
  obtain rfl : i = a.xs.length := by omega
  have hf0 := hfl a.xs.length
  refine cw_exit ?_
  refine ex_pass_exit ?_
  refine ex_pass_exit ?_
  refine ex_block_hit ?_
  refine ex_then ?_
  refine cw_seq ?_
  refine cw_region ?_
  refine sq_r (ry_move rfl) ?_
  refine sq_callC rfl (by omega) fun x24 hp24 => ?_
  refine sq_r (ry_assign rfl) ?_
  refine sq_nil ?_
  refine ex_then ?_
  refine cw_seq ?_
  refine cw_seq ?_
  refine cw_region ?_
  refine sq_r (ry_move rfl) ?_
  refine sq_r (ry_lenH rfl) ?_
  refine sq_r (ry_move rfl) ?_
  refine sq_nil ?_
  refine ex_then ?_
  refine cw_block ?_
  refine cw_loop (X := Nat × Sv) (fun zz => [(27, .int .i64 (zz.1 : Nat)), (6, zz.2.val), (25, a.sv.val), (26, .int .i64 (a.xs.length : Nat))]) (fun zz => [own benc 1 zz.2 (flatB (a.xs.take zz.1))]) (fun zz => zz.1 ≤ a.xs.length) (fun zz => a.xs.length - zz.1) (0, x24) (Nat.zero_le _) (Sub.cons rfl (Sub.cons rfl (Sub.cons rfl (Sub.cons rfl (Sub.nil _))))) (fun w hw => (Keep.mem hw : Mem _ [own benc 1 x24 ([] : List UInt8)] _)) ?_
  rintro ⟨k, s1⟩ hk
  dsimp only
  simp only at hk
  have hf1 := hfl k
  have hf2 := hfl (k + 1)
  refine cw_seq ?_
  refine cw_region ?_
  refine sq_r (ry_int rfl rfl rfl) ?_
  refine sq_nil ?_
  refine ex_then ?_
  refine cw_seq ?_
  refine cw_cond rfl (fun h2 => ?_) (fun h2 => ?_)
  ·
   try simp only [Z0, Z1, Z2, Z3, Z4, Z5, Z6, Z7, Z8, Z9] at h2
   refine cw_skip ?_
   refine ex_then ?_
   refine cw_seq ?_
   refine cw_block ?_
   refine cw_seq ?_
   refine cw_region ?_
   obtain ⟨y, hy⟩ := get_some (xs := a.xs) (i := k) (by omega)
   refine sq_r (ry_idxH rfl rfl k rfl (by omega)) ?_
   refine sq_r (ry_elemcH (j := 0) rfl k hy rfl (by decide)) ?_
   have hfy : (flatB (a.xs.take (k + 1))).length = (flatB (a.xs.take k)).length + y.xs.length := by rw [flatB_snoc hy, List.length_append]
   have mb30 : Mb y _ := ⟨List.mem_of_getElem? hy⟩
   refine sq_r (ry_assign rfl) ?_
   refine sq_nil ?_
   refine ex_then ?_
   refine cw_region ?_
   refine sq_r (ry_move rfl) ?_
   refine sq_r (ry_move rfl) ?_
   refine sq_append (s := s1) (ys := y.xs) rfl rfl (by decide) (fun w hw => src_rows (s := y.sv) Tryz.underlying38 (by decide) ((inferInstance : Hd _ _ y.sv benc 1 y.xs).h w hw)) (by omega) (by omega) fun s33 hs33 hl33 => ?_
   refine sq_r (ry_assign rfl) ?_
   refine sq_nil ?_
   refine ex_block ?_
   refine ex_then ?_
   refine cw_region ?_
   refine sq_r (ry_add rfl rfl (by omega)) ?_
   refine sq_r (ry_move rfl) ?_
   refine sq_nil ?_
   exact ex_again (x := (k, s1)) (k + 1, s33) (by simp only; omega) (by simp only; omega) (Sub.cons rfl (Sub.cons rfl (Sub.cons rfl (Sub.cons rfl (Sub.nil _))))) (fun w hw => by rw [flatB_snoc hy]; exact Keep.mem hw)
  ·
   try simp only [Z0, Z1, Z2, Z3, Z4, Z5, Z6, Z7, Z8, Z9] at h2
   obtain rfl : k = a.xs.length := by omega
   refine cw_exit ?_
   refine ex_pass_exit ?_
   refine ex_pass_exit ?_
   refine ex_block_hit ?_
   refine ex_then ?_
   refine cw_seq ?_
   refine cw_region ?_
   refine sq_r (ry_move rfl) ?_
   refine sq_r (ry_assign rfl) ?_
   refine sq_nil ?_
   refine ex_then ?_
   refine cw_ret ?_
   refine ex_ret (.inl rfl) (res_1 rfl (rv_tmp rfl)) (fun w1 hw => ?_)
   exact ⟨s1, rfl, trivial, by rw [List.take_length] at hw; exact Keep.mem hw⟩
instance concatB_i {w0 : World} {L : List Ent} {a : Sl (Sl UInt8)} [ha : HdD w0 L a] : FnC Tryz.prog 164 w0 L [a.sv.val] (Sv) (fun zz => zz.val) (fun zz => own benc 1 zz (flatB a.xs) :: L) (fun zz => True) ((flatB a.xs).length ≤ 1000000) := ⟨fun hp w hw => (concatB_c w a (ha.h w hw) hp).mono fun e w' ⟨x, h1, h2, h3⟩ => ⟨x, h1, h2, hw.call h3⟩⟩
theorem cloneB_c (w : World) (s : Sv) (ss : List UInt8) (hs : Lies benc 1 (hp w) s ss) (hpre : ss.length ≤ 1000000) : Calls Tryz.prog 137 #[s.val] w fun e w' => ∃ zz : Sv, e = .returned (zz.val) ∧ (True) ∧ Mem w [own benc 1 zz ss] w' := by
 have ghs : Gv w s benc 1 ss := ⟨hs⟩
 refine calls_of (args := [_]) Tryz.func137 rfl Tryz.ntmps137 rfl ?_
 change Cw _ _ _ _ _ [(0, s.val)] []
 refine cw_seq ?_
 refine cw_region ?_
 refine sq_r (ry_assign rfl) ?_
 refine sq_nil ?_
 refine ex_then ?_
 refine cw_seq ?_
 refine cw_seq ?_
 refine cw_region ?_
 refine sq_r (ry_move rfl) ?_
 refine sq_r (ry_nilS Tryz.underlying38 rfl) ?_
 refine sq_nil ?_
 refine ex_then ?_
 refine cw_cond rfl (fun h0 => ?_) (fun h0 => ?_)
 ·
  try simp only [Z0, Z1, Z2, Z3, Z4, Z5, Z6, Z7, Z8, Z9] at h0
  have e0 : ss = [] := List.length_eq_zero_iff.1 (by have := hs.ok.nil h0; have := hs.len; omega)
  refine cw_seq ?_
  refine cw_region ?_
  refine sq_r (ry_assign rfl) ?_
  refine sq_nil ?_
  refine ex_then ?_
  refine cw_ret ?_
  refine ex_pass_ret ?_
  refine ex_ret (.inl rfl) (res_1 rfl (rv_tmp rfl)) (fun w1 hw => ?_)
  exact ⟨Sv.none, rfl, trivial, by rw [e0]; exact (Keep.mem hw : Mem w [] _).nilOwn benc 1⟩
 ·
  try simp only [Z0, Z1, Z2, Z3, Z4, Z5, Z6, Z7, Z8, Z9] at h0
  refine cw_skip ?_
  refine ex_then ?_
  refine cw_seq ?_
  refine cw_region ?_
  refine sq_build0 benc fun b5 => ?_
  refine sq_r (ry_move rfl) ?_
  refine sq_append (s := ⟨false, b5, 0, 0, 0, none⟩) (ys := ss) rfl rfl (by decide) (fun w hw => src_rows (s := s) Tryz.underlying38 (by decide) ((inferInstance : Hd _ _ s benc 1 ss).h w hw)) (by simp only [List.length_append, List.length_cons, List.length_nil]; omega) (by simp only [List.length_append, List.length_cons, List.length_nil]; omega) fun s7 hs7 hl7 => ?_
  refine sq_r (ry_assign rfl) ?_
  refine sq_nil ?_
  refine ex_then ?_
  refine cw_ret ?_
  refine ex_ret (.inl rfl) (res_1 rfl (rv_tmp rfl)) (fun w1 hw => ?_)
  exact ⟨s7, rfl, trivial, by simpa using hw⟩
instance cloneB_i {w0 : World} {L : List Ent} {s : Sv} {ss : List UInt8} [hs : HdE w0 L benc 1 s ss] : FnC Tryz.prog 137 w0 L [s.val] (Sv) (fun zz => zz.val) (fun zz => own benc 1 zz ss :: L) (fun zz => True) (ss.length ≤ 1000000) := ⟨fun hp w hw => (cloneB_c w s ss (hs.h w hw) hp).mono fun e w' ⟨x, h1, h2, h3⟩ => ⟨x, h1, h2, hw.call h3⟩⟩

end Go.Proofs.YtaipiecplldinaaGreat

/- Pages: what fits. -/
namespace Go.Proofs.YtaipiecplldinaaGreat
open Go.Eng Go.Kb
open Go.RowKit
instance : ZeroT Tryz.prog 110 (.agg (pgcells zPge)) := ⟨by kernel_rfl⟩
theorem pfits_c (w : World) (n : Int)  : Calls Tryz.prog 104 #[.int .i64 n] w fun e w' => e = .returned (.bool (fitsF n)) ∧ Mem w [] w' := by
 refine calls_of (args := [_]) Tryz.func104 rfl Tryz.ntmps104 rfl ?_
 change Cw _ _ _ _ _ [(0, .int .i64 n)] []
 refine cw_seq ?_
 refine cw_region ?_
 refine sq_r (ry_assign rfl) ?_
 refine sq_nil ?_
 refine ex_then ?_
 refine cw_seq ?_
 refine cw_region ?_
 refine sq_r (ry_move rfl) ?_
 refine sq_r (ry_int rfl rfl rfl) ?_
 refine sq_r (ry_move rfl) ?_
 refine sq_gt rfl rfl rfl (fun hg => (Ry.yl (ry_move rfl))) ?_
 refine sq_gt rfl rfl rfl (fun hg => (Ry.yl (ry_int (ev_c hg rfl) rfl rfl))) ?_
 refine sq_r (ry_and rfl rfl rfl) ?_
 refine sq_r (ry_assign rfl) ?_
 refine sq_nil ?_
 refine ex_then ?_
 refine cw_ret ?_
 refine ex_ret (.inl rfl) (res_1 rfl (rv_tmp rfl)) (fun w1 hw => ?_)
 exact ⟨congrArg (fun b => Ending.returned (Value.bool b)) (rfl), Keep.mem hw⟩
instance pfits_i {w0 : World} {L : List Ent} {n : Int}  : FnQ Tryz.prog 104 w0 L [.int .i64 n] (.bool (fitsF n)) (True) := ⟨fun hp w hw => pfits_c w n ⟩
theorem proom_c (w : World) (n : Int)  : Calls Tryz.prog 59 #[.int .i64 n] w fun e w' => e = .returned (.int .i64 (roomF n)) ∧ Mem w [] w' := by
 refine calls_of (args := [_]) Tryz.func59 rfl Tryz.ntmps59 rfl ?_
 change Cw _ _ _ _ _ [(0, .int .i64 n)] []
 refine cw_seq ?_
 refine cw_region ?_
 refine sq_r (ry_assign rfl) ?_
 refine sq_nil ?_
 refine ex_then ?_
 refine cw_seq ?_
 refine cw_seq ?_
 refine cw_region ?_
 refine sq_r (ry_move rfl) ?_
 refine sq_y (yl_callC rfl trivial) ?_
 refine sq_r (ry_not rfl) ?_
 refine sq_nil ?_
 refine ex_then ?_
 refine cw_cond rfl (fun h0 => ?_) (fun h0 => ?_)
 ·
  try simp only [Z0, Z1, Z2, Z3, Z4, Z5, Z6, Z7, Z8, Z9] at h0
  refine cw_seq ?_
  refine cw_region ?_
  refine sq_r (ry_assign rfl) ?_
  refine sq_nil ?_
  refine ex_then ?_
  refine cw_ret ?_
  refine ex_pass_ret ?_
  refine ex_ret (.inl rfl) (res_1 rfl (rv_tmp rfl)) (fun w1 hw => ?_)
  exact ⟨congrArg (fun b => Ending.returned (Value.int .i64 b)) ((by rw [roomF, if_neg (by rw [h0]; simp)])), Keep.mem hw⟩
 ·
  try simp only [Z0, Z1, Z2, Z3, Z4, Z5, Z6, Z7, Z8, Z9] at h0
  have hf := fitsF_iff.1 h0
  refine cw_skip ?_
  refine ex_then ?_
  refine cw_seq ?_
  refine cw_region ?_
  refine sq_r (ry_move rfl) ?_
  refine sq_r (ry_sub rfl rfl (by omega)) ?_
  refine sq_r (ry_assign rfl) ?_
  refine sq_nil ?_
  refine ex_then ?_
  refine cw_ret ?_
  refine ex_ret (.inl rfl) (res_1 rfl (rv_tmp rfl)) (fun w1 hw => ?_)
  exact ⟨congrArg (fun b => Ending.returned (Value.int .i64 b)) ((by rw [roomF, if_pos h0])), Keep.mem hw⟩
instance proom_i {w0 : World} {L : List Ent} {n : Int}  : FnQ Tryz.prog 59 w0 L [.int .i64 n] (.int .i64 (roomF n)) (True) := ⟨fun hp w hw => proom_c w n ⟩
theorem pmay_c (w : World) (x : Pge) (n : Int) (hx : Deep.good (hp w) x) : Calls Tryz.prog 136 #[.agg (pgcells x), .int .i64 n] w fun e w' => e = .returned (.bool (mayF (pvv x) n)) ∧ Mem w [] w' := by
 have ghx : GvD w x := ⟨hx⟩
 refine calls_of (args := [_, _]) Tryz.func136 rfl Tryz.ntmps136 rfl ?_
 change Cw _ _ _ _ _ [(0, .agg (pgcells x)), (1, .int .i64 n)] []
 refine cw_seq ?_
 refine cw_region ?_
 refine sq_boxA rfl fun b2 => ?_
 refine sq_r (ry_assign rfl) ?_
 refine sq_nil ?_
 refine ex_then ?_
 refine cw_seq ?_
 refine cw_quiet (by kernel_rfl) (by kernel_rfl) ?_
 refine qt_r (ry_move rfl) ?_
 refine qt_y (yl_callC rfl trivial) ?_
 refine qt_r (ry_move rfl) ?_
 refine qt_gt rfl rfl rfl (fun hg => (Ry.yl (ry_field (o' := 0) rfl rfl))) ?_
 refine qt_gt rfl rfl rfl (fun hg => (Ry.yl (ry_cellc (ev_c hg rfl)))) ?_
 refine qt_gt rfl rfl rfl (fun hg => (Ry.yl (ry_int (ev_c hg rfl) rfl rfl))) ?_
 refine qt_gt rfl rfl rfl (fun hg => (Ry.yl (ry_move (ev_c hg rfl)))) ?_
 refine qt_nf rfl rfl rfl (fun hg => (Ry.yl (ry_field (o' := 0) rfl rfl))) ?_
 refine qt_nf rfl rfl rfl (fun hg => (Ry.yl (ry_cellc (ev_c hg rfl)))) ?_
 refine qt_nf rfl rfl rfl (fun hg => (Ry.yl (ry_int (ev_c hg rfl) rfl rfl))) ?_
 refine qt_gt rfl rfl rfl (fun hg => (Ry.yl (ry_or (ev_c hg rfl) rfl (ev_cc hg rfl)))) ?_
 refine qt_r (ry_and rfl rfl rfl) ?_
 refine qt_r (ry_move rfl) ?_
 refine qt_gt rfl rfl rfl (fun hg => (Ry.yl (ry_field (o' := 1) rfl rfl))) ?_
 refine qt_gt rfl rfl rfl (fun hg => (Ry.yl (ry_cellc (ev_c hg rfl)))) ?_
 refine qt_gt rfl rfl rfl (fun hg => (Ry.yl (ry_int (ev_c hg rfl) rfl rfl))) ?_
 refine qt_r (ry_and rfl rfl rfl) ?_
 refine qt_r (ry_move rfl) ?_
 refine qt_gt rfl rfl rfl (fun hg => (Ry.yl (ry_field (o' := 1) rfl rfl))) ?_
 refine qt_gt rfl rfl rfl (fun hg => (Ry.yl (ry_cellc (ev_c hg rfl)))) ?_
 refine qt_gt rfl rfl rfl (fun hg => (Ry.yl (ry_int (ev_c hg rfl) rfl rfl))) ?_
 refine qt_r (ry_and rfl rfl rfl) ?_
 refine qt_r (ry_move rfl) ?_
 refine qt_gt rfl rfl rfl (fun hg => (Ry.yl (ry_field (o' := 2) rfl rfl))) ?_
 refine qt_gt rfl rfl rfl (fun hg => (Ry.yl (ry_cellc (ev_c hg rfl)))) ?_
 refine qt_gt rfl rfl rfl (fun hg => (Ry.yl (ry_int (ev_c hg rfl) rfl rfl))) ?_
 refine qt_r (ry_and rfl rfl rfl) ?_
 refine qt_r (ry_move rfl) ?_
 refine qt_gt rfl rfl rfl (fun hg => (Ry.yl (ry_field (o' := 3) rfl rfl))) ?_
 refine qt_gt rfl rfl rfl (fun hg => (Ry.yl (ry_cellc (ev_c hg rfl)))) ?_
 refine qt_gt rfl rfl rfl (fun hg => (Ry.yl (ry_lenH (ev_c hg rfl)))) ?_
 refine qt_gt rfl rfl rfl (fun hg => (Ry.yl (ry_move rfl))) ?_
 refine qt_gt rfl rfl rfl (fun hg => yl_callC (evl_cons (ev_c hg rfl) evl_nil) trivial) ?_
 refine qt_gt rfl rfl rfl (fun hg => (Ry.yl (ry_int (ev_c hg rfl) (ev_c hg rfl) rfl))) ?_
 refine qt_r (ry_and rfl rfl rfl) ?_
 refine qt_r (ry_assign rfl) ?_
 refine qt_nil ?_
 refine ex_then ?_
 refine cw_ret ?_
 refine ex_ret (.inl rfl) (res_1 rfl (rv_tmp rfl)) (fun w1 hw => ?_)
 exact ⟨congrArg (fun b => Ending.returned (Value.bool b)) ((by simp only [mayF, pvv]; rw [show decide ((x.gen.toNat : Int) < 281474976710656) = decide (x.gen.toNat < 281474976710656) from decide_eq_decide.2 (by omega)]; rfl)), Keep.mem hw⟩
instance pmay_i {w0 : World} {L : List Ent} {x : Pge} {n : Int} [hx : HdD w0 L x] : FnQ Tryz.prog 136 w0 L [.agg (pgcells x), .int .i64 n] (.bool (mayF (pvv x) n)) (True) := ⟨fun hp w hw => pmay_c w x n (hx.h w hw)⟩
theorem pblank_c (w : World) (b : Sv) (bs : List UInt8) (hb : Lies benc 1 (hp w) b bs) : Calls Tryz.prog 129 #[b.val] w fun e w' => e = .returned (.bool (blankF bs)) ∧ Mem w [] w' := by
 have ghb : Gv w b benc 1 bs := ⟨hb⟩
 have hbd := hb.bd
 refine calls_of (args := [_]) Tryz.func129 rfl Tryz.ntmps129 rfl ?_
 change Cw _ _ _ _ _ [(0, b.val)] []
 refine cw_seq ?_
 refine cw_region ?_
 refine sq_r (ry_assign rfl) ?_
 refine sq_nil ?_
 refine ex_then ?_
 refine cw_seq ?_
 refine cw_seq ?_
 refine cw_region ?_
 refine sq_r (ry_move rfl) ?_
 refine sq_r (ry_lenH rfl) ?_
 refine sq_r (ry_move rfl) ?_
 refine sq_nil ?_
 refine ex_then ?_
 refine cw_block ?_
 refine cw_loop (X := Nat) (fun zz => [(7, .int .i64 (zz : Nat)), (5, b.val), (6, .int .i64 (bs.length : Nat))]) (fun zz => []) (fun zz => zz ≤ bs.length ∧ ∀ j x, j < zz → bs[j]? = Option.some x → x = 255) (fun zz => bs.length - zz) 0 ⟨Nat.zero_le _, fun j x hj => by first | omega | (simp only []; omega)⟩ (Sub.cons rfl (Sub.cons rfl (Sub.cons rfl (Sub.nil _)))) (fun w hw => Keep.mem hw) ?_
 rintro i ⟨hi1, hi2⟩
 refine cw_seq ?_
 refine cw_region ?_
 refine sq_r (ry_int rfl rfl rfl) ?_
 refine sq_nil ?_
 refine ex_then ?_
 refine cw_seq ?_
 refine cw_cond rfl (fun h0 => ?_) (fun h0 => ?_)
 ·
  try simp only [Z0, Z1, Z2, Z3, Z4, Z5, Z6, Z7, Z8, Z9] at h0
  refine cw_skip ?_
  refine ex_then ?_
  refine cw_seq ?_
  refine cw_block ?_
  refine cw_seq ?_
  refine cw_region ?_
  obtain ⟨y, hy⟩ := get_some (xs := bs) (i := i) (by omega)
  refine sq_r (ry_idxH rfl rfl i rfl (by omega)) ?_
  refine sq_r (ry_elemcH (j := 0) rfl i hy rfl (by decide)) ?_
  refine sq_r (ry_assign rfl) ?_
  refine sq_nil ?_
  refine ex_then ?_
  refine cw_seq ?_
  refine cw_region ?_
  refine sq_r (ry_move rfl) ?_
  refine sq_r (ry_int rfl rfl rfl) ?_
  refine sq_nil ?_
  refine ex_then ?_
  refine cw_cond rfl (fun h1 => ?_) (fun h1 => ?_)
  ·
   try simp only [Z0, Z1, Z2, Z3, Z4, Z5, Z6, Z7, Z8, Z9] at h1
   have hz : blankF bs = false := by
    cases hk : blankF bs with
    | false => rfl
    | true => exact absurd (congrArg UInt8.toNat (blankF_iff.1 hk y (List.mem_of_getElem? hy))) (by intro e; exact h1 (by rw [e]; rfl))
   refine cw_seq ?_
   refine cw_region ?_
   refine sq_r (ry_assign rfl) ?_
   refine sq_nil ?_
   refine ex_then ?_
   refine cw_ret ?_
   refine ex_block_ret ?_
   refine ex_pass_ret ?_
   refine ex_pass_ret ?_
   refine ex_block_ret ?_
   refine ex_pass_ret ?_
   refine ex_ret (.inl rfl) (res_1 rfl (rv_tmp rfl)) (fun w1 hw => ?_)
   exact ⟨congrArg (fun b => Ending.returned (Value.bool b)) (hz.symm), Keep.mem hw⟩
  ·
   try simp only [Z0, Z1, Z2, Z3, Z4, Z5, Z6, Z7, Z8, Z9] at h1
   have hy5 : y = 255 := UInt8.toNat_inj.1 (show y.toNat = 255 by omega)
   refine cw_skip ?_
   refine ex_block ?_
   refine ex_then ?_
   refine cw_region ?_
   refine sq_r (ry_add rfl rfl (by omega)) ?_
   refine sq_r (ry_move rfl) ?_
   refine sq_nil ?_
   exact ex_again (x := (i)) (i + 1) ⟨by first | omega | (simp only []; omega), fun j x hj hx => if e : j = i then (by subst e; rw [hy] at hx; cases hx; exact hy5) else hi2 j x (by first | omega | (simp only []; omega)) hx⟩ (by first | omega | (simp only []; omega)) (Sub.cons rfl (Sub.cons rfl (Sub.cons rfl (Sub.nil _)))) (fun w hw => Keep.mem hw)
 ·
  try simp only [Z0, Z1, Z2, Z3, Z4, Z5, Z6, Z7, Z8, Z9] at h0
  obtain rfl : i = bs.length := by omega
  have hz : blankF bs = true := blankF_iff.2 fun x hx => by
   obtain ⟨j, hj⟩ := List.getElem?_of_mem hx
   exact hi2 j x (List.getElem?_eq_some_iff.1 hj).1 hj
  refine cw_exit ?_
  refine ex_pass_exit ?_
  refine ex_pass_exit ?_
  refine ex_block_hit ?_
  refine ex_then ?_
  refine cw_seq ?_
  refine cw_region ?_
  refine sq_r (ry_assign rfl) ?_
  refine sq_nil ?_
  refine ex_then ?_
  refine cw_ret ?_
  refine ex_ret (.inl rfl) (res_1 rfl (rv_tmp rfl)) (fun w1 hw => ?_)
  exact ⟨congrArg (fun b => Ending.returned (Value.bool b)) (hz.symm), Keep.mem hw⟩
instance pblank_i {w0 : World} {L : List Ent} {b : Sv} {bs : List UInt8} [hb : HdE w0 L benc 1 b bs] : FnQ Tryz.prog 129 w0 L [b.val] (.bool (blankF bs)) (True) := ⟨fun hp w hw => pblank_c w b bs (hb.h w hw)⟩

end Go.Proofs.YtaipiecplldinaaGreat

/- Roots: told and read, the newest of some. No program in sight. -/
namespace Go.Kb
open Go.Eng
structure RV where
 gen : Nat
 at_ : List Int
 deriving DecidableEq
def zRV : RV := ⟨0, []⟩
def rvv (r : Rts) : RV := ⟨r.gen.toNat, r.at_.xs⟩
def mostF (n : Int) : Int := min 64 (roomF n / 2)
def numOk (x : Int) : Bool := decide (0 ≤ x) && decide (x ≤ 65535)
theorem numOk_iff {x : Int} : numOk x = true ↔ 0 ≤ x ∧ x ≤ 65535 := by simp only [numOk, Bool.and_eq_true, decide_eq_true_eq]
def rmayF (r : RV) (n : Int) : Bool := !decide (roomF n = 0) && decide (r.gen < 281474976710656) && decide ((r.at_.length : Int) ≤ mostF n) && r.at_.all numOk
theorem rmayF_iff {r : RV} {n : Int} : rmayF r n = true ↔ roomF n ≠ 0 ∧ r.gen < 281474976710656 ∧ (r.at_.length : Int) ≤ mostF n ∧ ∀ x ∈ r.at_, numOk x = true := by
 simp only [rmayF, Bool.and_eq_true, Bool.not_eq_true', decide_eq_true_eq, decide_eq_false_iff_not, and_assoc, List.all_eq_true, ne_eq]
def numAt (b : List UInt8) (i : Nat) : Int := ((hop16 (b.getD (2 * i) 0) (b.getD (2 * i + 1) 0)).toNat : Int)
def numsF (b : List UInt8) : List Int := (List.range (b.length / 2)).map (numAt b)
def rformF (p : PV) : Bool := decide (p.kind = 2) && decide (p.body.length % 2 = 0) && decide (p.id = max 0 ((p.body.length / 2 : Nat) - 1 : Int))
def rreadF (b : List UInt8) : RV × Int :=
 if (readF b).2 ≠ 0 then (zRV, (readF b).2)
 else if (readF b).1.kind = 0 then (zRV, 6)
 else if rformF (readF b).1 = false then (zRV, 2)
 else (⟨(readF b).1.gen, numsF (readF b).1.body⟩, 0)
def numB (x : Int) : List UInt8 := [b8i (x / 256), b8i x]
def numsB (l : List Int) : List UInt8 := (l.map numB).flatten
def rputF (r : RV) (n : Int) : List UInt8 × Int := if rmayF r n = true then putF ⟨2, max 0 ((r.at_.length : Int) - 1), r.gen, numsB r.at_⟩ n else ([], 1)
theorem nums_take {b : List UInt8} {i : Nat} (h : i < b.length / 2) : (numsF b).take (i + 1) = (numsF b).take i ++ [numAt b i] := by
 rw [List.take_add_one, numsF, List.getElem?_map, List.getElem?_range h]; rfl
theorem numsF_len (b : List UInt8) : (numsF b).length = b.length / 2 := by simp [numsF]
theorem numsB_snoc {l : List Int} {i : Nat} {x : Int} (h : l[i]? = some x) : numsB (l.take (i + 1)) = numsB (l.take i) ++ numB x := by
 simp [numsB, List.take_add_one, h]
theorem numsB_len (l : List Int) : (numsB l).length = 2 * l.length := by
 induction l with
 | nil => rfl
 | cons x l ih =>
  have : numsB (x :: l) = numB x ++ numsB l := by simp [numsB]
  rw [this, List.length_append, ih]
  simp only [numB, List.length_cons, List.length_nil]; omega
/-! The newest of some. -/
structure NS where
 at_ : Int
 new : RV
 found : Bool
 blank : Bool
 deriving DecidableEq
def newStep (s : NS) (i : Nat) (b : List UInt8) : NS :=
 if (rreadF b).2 = 0 ∧ (s.found = false ∨ s.new.gen ≤ (rreadF b).1.gen) then ⟨i, (rreadF b).1, true, s.blank && blankF b⟩ else { s with blank := s.blank && blankF b }
def newS (l : List (List UInt8)) : Nat → NS
 | 0 => ⟨0, zRV, false, true⟩
 | k + 1 => newStep (newS l k) k (l.getD k [])
def nwF (l : List (List UInt8)) : Int × RV × Int :=
 if (newS l l.length).found = true then ((newS l l.length).at_, (newS l l.length).new, 0) else if (newS l l.length).blank = true then (0, zRV, 6) else (0, zRV, 2)
theorem newS_pos {l : List (List UInt8)} {i : Nat} {b : List UInt8} (hb : l[i]? = some b) (h : (rreadF b).2 = 0 ∧ ((newS l i).found = false ∨ (newS l i).new.gen ≤ (rreadF b).1.gen)) : newS l (i + 1) = ⟨i, (rreadF b).1, true, (newS l i).blank && blankF b⟩ := by
 rw [newS, show l.getD i [] = b by simp [List.getD, hb], newStep, if_pos h]
theorem newS_neg {l : List (List UInt8)} {i : Nat} {b : List UInt8} (hb : l[i]? = some b) (h : ¬ ((rreadF b).2 = 0 ∧ ((newS l i).found = false ∨ (newS l i).new.gen ≤ (rreadF b).1.gen))) : newS l (i + 1) = { newS l i with blank := (newS l i).blank && blankF b } := by
 rw [newS, show l.getD i [] = b by simp [List.getD, hb], newStep, if_neg h]
end Go.Kb

/- Volumes on a chip: found, mounted, read. No program in sight. -/
namespace Go.Kb
open Go.Eng
structure VV where
 chip : CV
 at_ : List Int
 gen : Nat
 last : Int
 deriving DecidableEq
def zCV : CV := ⟨0, 0, [], 0, false, []⟩
def zVV : VV := ⟨zCV, [], 0, 0⟩
def vv (v : Vol) : VV := ⟨cv v.chip, v.at_.xs, v.gen.toNat, v.last⟩
def bearsF (c : CV) : Bool := chipOk c && decide (4 ≤ (c.blocks.length : Int)) && decide (2 ≤ c.pages) && decide (24 ≤ c.size)
theorem bearsF_iff {c : CV} : bearsF c = true ↔ chipOk c = true ∧ 4 ≤ (c.blocks.length : Int) ∧ 2 ≤ c.pages ∧ 24 ≤ c.size := by simp only [bearsF, Bool.and_eq_true, decide_eq_true_eq, and_assoc]
def pageAt (c : CV) (k : Int) : List UInt8 := (blkAt c (k / c.pages)).pages.getD (k % c.pages).toNat []
def placeOk (c : CV) (k : Int) : Bool := decide (2 ≤ k / c.pages) && decide (k / c.pages < (c.blocks.length : Int)) && decide (k % c.pages < (blkAt c (k / c.pages)).used)
theorem placeOk_iff {c : CV} {k : Int} : placeOk c k = true ↔ 2 ≤ k / c.pages ∧ k / c.pages < (c.blocks.length : Int) ∧ k % c.pages < (blkAt c (k / c.pages)).used := by simp only [placeOk, Bool.and_eq_true, decide_eq_true_eq, and_assoc]
def dataF (p : PV × Int) (id : Int) : Bool := decide (p.2 = 0) && decide (p.1.kind = 1) && decide (p.1.id = id)
def namesF (c : CV) (id n : Int) : Bool := placeOk c (n - 1) && dataF (readF (pageAt c (n - 1))) id
theorem onF_self (c : CV) : { onF c c.faults with off := c.off } = c := by
 rw [onF]; split <;> rfl
end Go.Kb

/- Which pages a root names. No program in sight. -/
namespace Go.Kb
open Go.Eng
def plcAt (c : CV) (l : List Int) (i : Nat) : Bool := decide (l.getD i 0 = 0) || (!(l.take i).contains (l.getD i 0) && namesF c (i : Int) (l.getD i 0))
def placedF (c : CV) (l : List Int) : Bool := (List.range l.length).all (plcAt c l)
theorem placedF_iff {c : CV} {l : List Int} : placedF c l = true ↔ ∀ i, i < l.length → plcAt c l i = true := by simp only [placedF, List.all_eq_true, List.mem_range]
def seenF (l : List Int) (i : Nat) : Int → Option Unit := fun x => if x ≠ 0 ∧ x ∈ l.take i then some () else none
theorem seenF_some {l : List Int} {i : Nat} {x : Int} : (seenF l i x).isSome = decide (x ≠ 0 ∧ x ∈ l.take i) := by
 unfold seenF; split <;> simp_all
theorem seenF_zero {l : List Int} : (fun _ => none) = seenF l 0 := by
 funext x; simp [seenF]
theorem seenF_skip {l : List Int} {i : Nat} (h : l[i]? = some 0) : seenF l (i + 1) = seenF l i := by
 funext x
 unfold seenF
 rw [List.take_add_one, h]
 by_cases hx : x = 0
 ·
  simp [hx]
 ·
  simp [hx]
theorem seenF_next {l : List Int} {i : Nat} {y : Int} (h : l[i]? = some y) (hy : y ≠ 0) : (fun z => if z = y then some () else seenF l i z) = seenF l (i + 1) := by
 funext x
 unfold seenF
 rw [List.take_add_one, h]
 by_cases hx : x = y
 ·
  subst hx; simp [hy]
 ·
  simp [hx]
theorem getD_of {l : List Int} {i : Nat} {y : Int} (h : l[i]? = some y) : l.getD i 0 = y := by simp [List.getD, h]
def flatP (l : List (Sl (Sl UInt8))) : List (Sl UInt8) := (l.map Sl.xs).flatten
theorem flatP_snoc {l : List (Sl (Sl UInt8))} {i : Nat} {x : Sl (Sl UInt8)} (h : l[i]? = some x) : flatP (l.take (i + 1)) = flatP (l.take i) ++ x.xs := by
 rw [flatP, List.take_add_one, h]; simp [flatP]
theorem flatP_le (l : List (Sl (Sl UInt8))) (i : Nat) : (flatP (l.take i)).length ≤ (flatP l).length := by
 have e : flatP l = flatP (l.take i) ++ flatP (l.drop i) := by
  unfold flatP
  rw [← List.flatten_append, ← List.map_append, List.take_append_drop]
 rw [e, List.length_append]; omega
class GvAll (w0 : World) (l : List (Sl UInt8)) : Prop where
 h : ∀ y ∈ l, Deep.good (hp w0) y
instance HdD.row {w0 : World} {L : List Ent} {x : Sv} {l : List (Sl UInt8)} {i : Nat} [q : Owns L x (scells (τ := UInt8)) 1 l i] [m : GvAll w0 l] : HdD w0 L (⟨x, l⟩ : Sl (Sl UInt8)) :=
 ⟨fun w hw => ⟨(hw.get q.h).1, fun y hy => Deep.mono w0 w y (m.h y hy) hw.below⟩⟩
end Go.Kb

/- A volume found on a chip. No program in sight. -/
namespace Go.Kb
open Go.Eng
def rootsAt (c : CV) : Int × RV × Int := nwF ((blkAt c 0).pages ++ (blkAt c 1).pages)
def lastOk (c : CV) : Bool := decide ((rootsAt c).1 % c.pages < (blkAt c ((rootsAt c).1 / c.pages)).used) && placedF c (rootsAt c).2.1.at_
def foundF (c : CV) : VV × Int :=
 if bearsF c = false then (zVV, 1)
 else if c.off = true then (zVV, 7)
 else if (rootsAt c).2.2 ≠ 0 then (zVV, (rootsAt c).2.2)
 else if lastOk c = false then (zVV, 2)
 else (⟨c, (rootsAt c).2.1.at_, (rootsAt c).2.1.gen, (rootsAt c).1 / c.pages⟩, 0)
theorem newS_at (l : List (List UInt8)) : ∀ k, k ≤ l.length → (newS l k).at_ = 0 ∨ (0 ≤ (newS l k).at_ ∧ (newS l k).at_ < k)
 | 0, _ => .inl rfl
 | k + 1, h => by
  have := newS_at l k (by omega)
  rw [newS, newStep]
  split
  ·
   exact .inr ⟨by simp only; omega, by simp only; omega⟩
  ·
   simp only; omega
theorem nwF_at {l : List (List UInt8)} (h : 0 < l.length) : 0 ≤ (nwF l).1 ∧ (nwF l).1 < l.length := by
 have := newS_at l l.length (Nat.le_refl _)
 rw [nwF]
 split
 ·
  simp only; omega
 ·
  split <;> (simp only; omega)
theorem numsF_ok (b : List UInt8) : ∀ x ∈ numsF b, 0 ≤ x ∧ x ≤ 65535 := by
 intro x hx
 obtain ⟨i, _, rfl⟩ := List.mem_map.1 hx
 have := (hop16 (b.getD (2 * i) 0) (b.getD (2 * i + 1) 0)).toNat_lt
 simp only [numAt]; omega
theorem rreadF_ok (b : List UInt8) : ∀ x ∈ (rreadF b).1.at_, 0 ≤ x ∧ x ≤ 65535 := by
 rw [rreadF]
 split
 ·
  simp [zRV]
 ·
  split
  ·
   simp [zRV]
  ·
   split
   ·
    simp [zRV]
   ·
    exact numsF_ok _
theorem newS_ok (l : List (List UInt8)) : ∀ k, ∀ x ∈ (newS l k).new.at_, 0 ≤ x ∧ x ≤ 65535
 | 0 => by simp [newS, zRV]
 | k + 1 => by
  have := newS_ok l k
  rw [newS, newStep]
  split
  ·
   exact rreadF_ok _
  ·
   exact this
theorem nwF_ok (l : List (List UInt8)) : ∀ x ∈ (nwF l).2.1.at_, 0 ≤ x ∧ x ≤ 65535 := by
 rw [nwF]
 split
 ·
  exact newS_ok _ _
 ·
  split <;> simp [zRV]
theorem txs_flatP (a b : Sl (Sl UInt8)) : txs (flatP [a, b]) = txs a.xs ++ txs b.xs := by simp [txs, flatP]
theorem blkAt_of {c : Cp} {i : Nat} {B : Bk} (h : c.blocks.xs[i]? = some B) : blkAt (cv c) (i : Int) = bv B := by
 rw [← blkAt_eq]; simp [List.getD, h]
theorem rreadF_len (b : List UInt8) : (rreadF b).1.at_.length ≤ 65536 := by
 have h := readF_len b
 rw [rreadF]
 split
 ·
  simp [zRV]
 ·
  split
  ·
   simp [zRV]
  ·
   split
   ·
    simp [zRV]
   ·
    simp only [numsF_len]; omega
theorem newS_len (l : List (List UInt8)) : ∀ k, (newS l k).new.at_.length ≤ 65536
 | 0 => by simp [newS, zRV]
 | k + 1 => by
  have := newS_len l k
  rw [newS, newStep]
  split
  ·
   exact rreadF_len _
  ·
   exact this
theorem nwF_len (l : List (List UInt8)) : (nwF l).2.1.at_.length ≤ 65536 := by
 rw [nwF]
 split
 ·
  exact newS_len _ _
 ·
  split <;> simp [zRV]
theorem foundF_len (c : CV) : (foundF c).1.at_.length ≤ 65536 := by
 have h := nwF_len ((blkAt c 0).pages ++ (blkAt c 1).pages)
 rw [foundF]
 split
 ·
  simp [zVV]
 ·
  split
  ·
   simp [zVV]
  ·
   split
   ·
    simp [zVV]
   ·
    split
    ·
     simp [zVV]
    ·
     exact h
theorem foundF_bears {c : CV} (h : (foundF c).2 = 0) : bearsF c = true := by
 cases hb : bearsF c with
 | true => rfl
 | false => rw [foundF, if_pos hb] at h; cases h
def rightF (x : VV) : Bool := decide ((foundF { x.chip with off := false }).2 = 0) && decide ((foundF { x.chip with off := false }).1.gen = x.gen) && decide ((foundF { x.chip with off := false }).1.last = x.last) && decide ((foundF { x.chip with off := false }).1.at_ = x.at_)
theorem fz_nil {w0 w : World} {L : List Ent} (h : Mem w0 L w) : Mem w0 (fz zCp :: L) w :=
 frzC (d := zCp) (Mem.freeze (es := []) _ ⟨Lies.nil _ _ _, fun x hx => by cases hx⟩ (fun k hk => by
  rcases hk with ⟨hne, _⟩ | ⟨x, hx, _⟩
  ·
   exact absurd rfl hne
  ·
   cases hx) (frzNil (s := Sv.none) Sv.none_ok rfl h))
class EqC (a : Cp) (b : outParam Cp) : Prop where
 h : a = b
instance HdD.volOf {w0 : World} {L : List Ent} {v : Vol} {c : Cp} [e : EqC v.chip c] [q1 : HdD w0 L c] [q2 : HdD w0 L v.at_] : HdD w0 L v :=
 ⟨fun w hw => ⟨by rw [e.h]; exact q1.h w hw, q2.h w hw⟩⟩
def bodyF (c : CV) (n : Int) : List UInt8 := if (readF (pageAt c (n - 1))).2 = 0 then (readF (pageAt c (n - 1))).1.body else []
end Go.Kb

/- What is got of a right volume. No program in sight. -/
namespace Go.Kb
open Go.Eng
theorem foundF_ok {c : CV} (h : (foundF c).2 = 0) : bearsF c = true ∧ lastOk c = true ∧ foundF c = (⟨c, (rootsAt c).2.1.at_, (rootsAt c).2.1.gen, (rootsAt c).1 / c.pages⟩, 0) := by
 have hb := foundF_bears h
 by_cases h1 : c.off = true
 ·
  rw [foundF, if_neg (by rw [hb]; simp), if_pos h1] at h; cases h
 ·
  by_cases h2 : (rootsAt c).2.2 ≠ 0
  ·
   rw [foundF, if_neg (by rw [hb]; simp), if_neg h1, if_pos h2] at h; exact absurd h h2
  ·
   cases h3 : lastOk c with
   | false => rw [foundF, if_neg (by rw [hb]; simp), if_neg h1, if_neg h2, if_pos h3] at h; cases h
   | true => exact ⟨hb, rfl, by rw [foundF, if_neg (by rw [hb]; simp), if_neg h1, if_neg h2, if_neg (by rw [h3]; simp)]⟩
theorem right_ok {x : VV} (h : rightF x = true) : chipOk x.chip = true ∧ placedF x.chip x.at_ = true ∧ ∀ y ∈ x.at_, 0 ≤ y ∧ y ≤ 65535 := by
 simp only [rightF, Bool.and_eq_true, decide_eq_true_eq] at h
 obtain ⟨⟨⟨h1, h2⟩, h3⟩, h4⟩ := h
 obtain ⟨hb, hl, hf⟩ := foundF_ok h1
 rw [hf] at h4
 simp only at h4
 simp only [lastOk, Bool.and_eq_true, decide_eq_true_eq] at hl
 rw [h4] at hl
 refine ⟨(bearsF_iff.1 hb).1, hl.2, ?_⟩
 rw [← h4]
 exact nwF_ok _
theorem right_at {x : VV} (h : rightF x = true) {i : Nat} {y : Int} (hy : x.at_[i]? = some y) (h0 : y ≠ 0) : 1 ≤ y ∧ y ≤ 1000000 ∧ placeOk x.chip (y - 1) = true := by
 obtain ⟨h1, h2, h3⟩ := right_ok h
 have hr := h3 y (List.mem_of_getElem? hy)
 have hp := placedF_iff.1 h2 i (List.getElem?_eq_some_iff.1 hy).1
 rw [plcAt, getD_of hy] at hp
 simp only [Bool.or_eq_true, decide_eq_true_eq, Bool.and_eq_true] at hp
 rcases hp with hp | hp
 ·
  exact absurd hp h0
 ·
  have hn := hp.2
  rw [namesF, Bool.and_eq_true] at hn
  exact ⟨by omega, by omega, hn.1⟩
def getF (x : VV) (id : Int) : List UInt8 × Int :=
 if ¬ (rightF x = true ∧ 0 ≤ id ∧ id < x.at_.length) then ([], 1)
 else if x.chip.off = true then ([], 7)
 else if x.at_.getD id.toNat 0 = 0 then ([], 6)
 else (bodyF x.chip (x.at_.getD id.toNat 0), 0)
end Go.Kb

/- What is known of a chip's blocks. No program in sight. -/
namespace Go.Kb
open Go.Eng
def freshN (l : List Int) (j : Nat) : Bool := decide (l.getD j 0 ≠ 0) && !(l.take j).contains (l.getD j 0)
def liveF (pages : Int) (l : List Int) (k i : Nat) : Nat := ((List.range k).filter fun j => freshN l j && decide ((l.getD j 0 - 1) / pages = (i : Int) + 2)).length
def wearOf (b : BV) (live : Nat) : Wea := ⟨live, b.used, b.worn, b.bad⟩
def knownTo (c : CV) (l : List Int) (k : Nat) : List Wea := (List.range (c.blocks.length - 2)).map fun i : Nat => wearOf (blkAt c ((i : Int) + 2)) (liveF c.pages l k i)
def knownF (c : CV) (l : List Int) : List Wea := knownTo c l l.length
theorem knownTo_len (c : CV) (l : List Int) (k : Nat) : (knownTo c l k).length = c.blocks.length - 2 := by simp [knownTo]
theorem liveF_succ (pages : Int) (l : List Int) (k i : Nat) : liveF pages l (k + 1) i = liveF pages l k i + (if freshN l k && decide ((l.getD k 0 - 1) / pages = (i : Int) + 2) then 1 else 0) := by
 rw [liveF, List.range_succ, List.filter_append, List.length_append, liveF]
 congr 1
 simp only [List.filter_cons, List.filter_nil]
 split <;> rfl
theorem knownTo_skip {c : CV} {l : List Int} {k : Nat} (h : freshN l k = false) : knownTo c l (k + 1) = knownTo c l k := by
 refine List.map_congr_left fun i _ => ?_
 rw [liveF_succ, h]; simp
theorem seenF_twice {l : List Int} {i : Nat} {y : Int} (h : l[i]? = some y) (hy : y ≠ 0 ∧ y ∈ l.take i) : seenF l (i + 1) = seenF l i := by
 funext x
 unfold seenF
 rw [List.take_add_one, h]
 by_cases hx : x = y
 ·
  subst hx; simp [hy.1, hy.2]
 ·
  simp [hx]
theorem knownTo_next {c : CV} {l : List Int} {k i : Nat} {x : Wea} (h : freshN l k = true) (hi : (l.getD k 0 - 1) / c.pages = (i : Int) + 2) (hx : (knownTo c l k)[i]? = some x) : knownTo c l (k + 1) = (knownTo c l k).set i { x with live := x.live + 1 } := by
 have hil : i < c.blocks.length - 2 := by have := (List.getElem?_eq_some_iff.1 hx).1; rwa [knownTo_len] at this
 have hx2 : x = wearOf (blkAt c ((i : Int) + 2)) (liveF c.pages l k i) := by
  rw [knownTo, List.getElem?_map, List.getElem?_range hil] at hx
  exact (Option.some.inj hx).symm
 refine List.ext_getElem? fun j => ?_
 rw [List.getElem?_set]
 by_cases hj : i = j
 ·
  subst hj
  rw [if_pos rfl, if_pos (by rw [knownTo_len]; exact hil), knownTo, List.getElem?_map, List.getElem?_range hil, Option.map_some, liveF_succ, h, hi, hx2]
  simp [wearOf]
 ·
  rw [if_neg hj, knownTo, knownTo, List.getElem?_map, List.getElem?_map]
  rcases Nat.lt_or_ge j (c.blocks.length - 2) with hjl | hjl
  ·
   rw [List.getElem?_range hjl, Option.map_some, Option.map_some, liveF_succ, h, hi]
   simp only [Bool.true_and]
   rw [decide_eq_false (by omega)]; simp
  ·
   rw [List.getElem?_eq_none (by simpa using hjl)]; rfl
def flatI (l : List (Sl Int)) : List Int := (l.map Sl.xs).flatten
theorem flatI_snoc {l : List (Sl Int)} {i : Nat} {x : Sl Int} (h : l[i]? = some x) : flatI (l.take (i + 1)) = flatI (l.take i) ++ x.xs := by
 rw [flatI, List.take_add_one, h]; simp [flatI]
theorem flatI_at {l : List (Sl Int)} {i j : Nat} {x : Sl Int} {y : Int} (h : l[i]? = some x) (hy : x.xs[j]? = some y) : (flatI l)[(flatI (l.take i)).length + j]? = some y := by
 have hj := (List.getElem?_eq_some_iff.1 hy).1
 have e : flatI l = flatI (l.take (i + 1)) ++ flatI (l.drop (i + 1)) := by
  unfold flatI
  rw [← List.flatten_append, ← List.map_append, List.take_append_drop]
 rw [e, flatI_snoc h, List.getElem?_append_left (by rw [List.length_append]; omega), List.getElem?_append_right (by omega), Nat.add_sub_cancel_left, hy]
def KnOk (c : CV) (l : List Int) : Prop := (chipOk c = true ∧ l.length ≤ 1000000) ∧ 2 ≤ c.blocks.length ∧ ∀ n ∈ l, n = 0 ∨ (1 ≤ n ∧ n ≤ 1000000 ∧ 2 ≤ (n - 1) / c.pages ∧ (n - 1) / c.pages < (c.blocks.length : Int))
theorem knownTo_zero (c : CV) (l : List Int) : knownTo c l 0 = (List.range (c.blocks.length - 2)).map fun i : Nat => wearOf (blkAt c ((i : Int) + 2)) 0 := by
 refine List.map_congr_left fun i _ => ?_
 simp [liveF]
theorem liveF_le (pages : Int) (l : List Int) (k i : Nat) : liveF pages l k i ≤ k := by
 rw [liveF]
 exact Nat.le_trans (List.length_filter_le _ _) (by simp)
theorem knownTo_live {c : CV} {l : List Int} {k i : Nat} {z : Wea} (h : (knownTo c l k)[i]? = some z) : 0 ≤ z.live ∧ z.live ≤ k := by
 rw [knownTo, List.getElem?_map, Option.map_eq_some_iff] at h
 obtain ⟨j, _, rfl⟩ := h
 have := liveF_le c.pages l k j
 simp only [wearOf]; omega
end Go.Kb

/- Blocks of pages by how they are worn: which is the first one of a kind. No program in sight. -/
namespace Go.Kb
open Go.Eng
def cmpI (a b : Int) : Int := if a < b then -1 else if b < a then 1 else 0
def wfreeF (p : Int) (x : Wea) : Bool := !x.bad && decide (x.used < p)
def wdeadF (x : Wea) : Bool := !x.bad && decide (x.live = 0) && decide (0 < x.used)
def wmixedF (p : Int) (x : Wea) : Bool := if x.bad = true then decide (0 < x.live) else decide (x.used = p) && decide (0 < x.live) && decide (x.live < p)
def fullerF (a b : Wea) : Int := cmpI b.used a.used
def fresherF (a b : Wea) : Int := cmpI a.worn b.worn
def emptierF (a b : Wea) : Int := cmpI a.live b.live
def worseF (a b : Wea) : Int := if a.bad = b.bad then 0 else if a.bad = true then -1 else 1
def weaOk (p : Int) (x : Wea) : Bool := decide (0 ≤ x.live) && decide (x.live ≤ x.used) && decide (x.used ≤ p) && decide (0 ≤ x.worn) && decide (x.worn ≤ ctop)
theorem weaOk_iff {p : Int} {x : Wea} : weaOk p x = true ↔ 0 ≤ x.live ∧ x.live ≤ x.used ∧ x.used ≤ p ∧ 0 ≤ x.worn ∧ x.worn ≤ ctop := by
 simp only [weaOk, Bool.and_eq_true, decide_eq_true_eq, and_assoc]
def wearsOk (l : List Wea) (p : Int) : Bool := decide (1 ≤ (l.length : Int)) && decide ((l.length : Int) ≤ 32) && decide (1 ≤ p) && decide (p ≤ 16) && l.all (weaOk p)
theorem wearsOk_iff {l : List Wea} {p : Int} : wearsOk l p = true ↔ 1 ≤ (l.length : Int) ∧ (l.length : Int) ≤ 32 ∧ 1 ≤ p ∧ p ≤ 16 ∧ ∀ x ∈ l, weaOk p x = true := by
 simp only [wearsOk, Bool.and_eq_true, decide_eq_true_eq, and_assoc, List.all_eq_true]
def aheadF (a b : Wea) : List (Wea → Wea → Int) → Bool
 | [] => false
 | o :: r => if o a b ≠ 0 then decide (o a b < 0) else aheadF a b r
def fstStep (l : List Wea) (rule : Wea → Bool) (os : List (Wea → Wea → Int)) (i : Nat) (s : Int × Bool) : Int × Bool :=
 if rule (l.getD i zWea) = true ∧ (s.2 = false ∨ aheadF (l.getD i zWea) (l.getD s.1.toNat zWea) os = true) then ((i : Int), true) else s
def fstTo (l : List Wea) (rule : Wea → Bool) (os : List (Wea → Wea → Int)) : Nat → Int × Bool
 | 0 => (0, false)
 | k + 1 => fstStep l rule os k (fstTo l rule os k)
def firstF (l : List Wea) (p : Int) (rule : Wea → Bool) (os : List (Wea → Wea → Int)) : Int × Bool :=
 if wearsOk l p = true then fstTo l rule os l.length else (0, false)
def frontW (l : List Wea) (p : Int) : Int × Bool := firstF l p (wfreeF p) [fullerF, fresherF]
def deadW (l : List Wea) (p : Int) : Int × Bool := firstF l p wdeadF [fresherF]
def victimW (l : List Wea) (p : Int) : Int × Bool := firstF l p (wmixedF p) [worseF, emptierF, fresherF]
def roomOf (p : Int) (x : Wea) : Int := if wdeadF x = true then p else if wfreeF p x = true then p - x.used else 0
def sumI : List Int → Int
 | [] => 0
 | x :: r => x + sumI r
def wroomF (l : List Wea) (p : Int) : Int := if wearsOk l p = true then sumI (l.map (roomOf p)) else 0
theorem sumI_append (a b : List Int) : sumI (a ++ b) = sumI a + sumI b := by
 induction a with
 | nil => simp [sumI]
 | cons x r ih => simp only [List.cons_append, sumI, ih]; omega
/-! What is found. -/
theorem fstTo_le (l : List Wea) (rule : Wea → Bool) (os : List (Wea → Wea → Int)) : ∀ k, 0 ≤ (fstTo l rule os k).1 ∧ (fstTo l rule os k).1 ≤ k ∧ ((fstTo l rule os k).2 = true → (fstTo l rule os k).1 < k ∧ rule (l.getD (fstTo l rule os k).1.toNat zWea) = true)
 | 0 => ⟨by simp [fstTo], by simp [fstTo], fun h => by simp [fstTo] at h⟩
 | k + 1 => by
  obtain ⟨h1, h2, h3⟩ := fstTo_le l rule os k
  rw [fstTo, fstStep]
  split
  ·
   rename_i h
   exact ⟨by simp only; omega, by simp only; omega, fun _ => ⟨by simp only; omega, by simpa using h.1⟩⟩
  ·
   exact ⟨h1, by omega, fun h => ⟨by have := (h3 h).1; omega, (h3 h).2⟩⟩
theorem fstTo_none {l : List Wea} {rule : Wea → Bool} {os : List (Wea → Wea → Int)} : ∀ {k}, (fstTo l rule os k).2 = false → ∀ i, i < k → rule (l.getD i zWea) = false
 | 0, _, i, hi => by omega
 | k + 1, h, i, hi => by
  rw [fstTo, fstStep] at h
  split at h
  ·
   cases h
  ·
   rename_i hn
   by_cases e : i = k
   ·
    subst e
    cases hr : rule (l.getD i zWea) with
    | false => rfl
    | true => exact absurd ⟨hr, .inl h⟩ hn
   ·
    exact fstTo_none h i (by omega)
theorem firstF_ok {l : List Wea} {p : Int} {rule : Wea → Bool} {os : List (Wea → Wea → Int)} (h : (firstF l p rule os).2 = true) : wearsOk l p = true ∧ 0 ≤ (firstF l p rule os).1 ∧ (firstF l p rule os).1 < l.length ∧ rule (l.getD (firstF l p rule os).1.toNat zWea) = true := by
 unfold firstF at h ⊢
 split at h
 ·
  rename_i hw
  rw [if_pos hw]
  obtain ⟨h1, h2, h3⟩ := fstTo_le l rule os l.length
  exact ⟨hw, h1, (h3 h).1, (h3 h).2⟩
 ·
  cases h
theorem firstF_none {l : List Wea} {p : Int} {rule : Wea → Bool} {os : List (Wea → Wea → Int)} (hw : wearsOk l p = true) (h : (firstF l p rule os).2 = false) : ∀ x ∈ l, rule x = false := fun x hx => by
 unfold firstF at h
 rw [if_pos hw] at h
 obtain ⟨i, hi⟩ := List.getElem?_of_mem hx
 have hil := (List.getElem?_eq_some_iff.1 hi).1
 have := fstTo_none h i hil
 rwa [show l.getD i zWea = x by simp [List.getD, hi]] at this
theorem drop_at {α : Type} {l : List α} {i : Nat} {e : α} (he : l[i]? = some e) : l.drop i = e :: l.drop (i + 1) := by
 obtain ⟨hi, rfl⟩ := List.getElem?_eq_some_iff.1 he
 rw [List.getElem_cons_drop]
theorem roomOf_le {p : Int} {x : Wea} (h : weaOk p x = true) (hp : 1 ≤ p) : 0 ≤ roomOf p x ∧ roomOf p x ≤ p := by
 obtain ⟨h1, h2, h3, _⟩ := weaOk_iff.1 h
 rw [roomOf]
 split
 ·
  omega
 ·
  split <;> omega
theorem sum_room (p : Int) : ∀ l : List Wea, (∀ x ∈ l, weaOk p x = true) → 1 ≤ p → 0 ≤ sumI (l.map (roomOf p)) ∧ sumI (l.map (roomOf p)) ≤ (l.length : Int) * p
 | [], _, _ => by simp [sumI]
 | x :: r, h, hp => by
  have h1 := sum_room p r (fun y hy => h y (List.mem_cons_of_mem _ hy)) hp
  have h2 := roomOf_le (h x List.mem_cons_self) hp
  rw [List.map_cons, sumI, List.length_cons, Int.natCast_add, Int.add_mul]
  omega
theorem room_le {n : Nat} {p : Int} (h : n ≤ 32) (h1 : 1 ≤ p) (h2 : p ≤ 16) : (n : Int) * p ≤ 512 := by
 have : (n : Int) * p ≤ 32 * 16 := Int.mul_le_mul (by omega) h2 (by omega) (by omega)
 omega
end Go.Kb

