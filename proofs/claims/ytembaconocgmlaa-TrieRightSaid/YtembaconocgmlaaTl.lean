/- Stores into a trie's nodes, as steps of a line; a call's memory, two entries of it in front. -/
import Derived.Test.YtembaconocgmlaaLn
import Derived.Test.YtembaconocgmlaaTc
set_option linter.unusedSimpArgs false
set_option linter.unusedVariables false
namespace Go.Eng
open Go.Kb Go.RowKit
/-- What is told, with a block and a slice in front. -/
theorem mem_two {w0 w : World} {L R1 R2 : List Ent} {e1 e2 : Ent} {i j : Nat} (h1 : L[i]? = some e1) (d1 : L.eraseIdx i = R1) (h2 : R1[j]? = some e2) (d2 : R1.eraseIdx j = R2) (h : Mem w0 L w) : Mem w0 (e1 :: e2 :: R2) w := by
  subst d1; subst d2
  exact h.perm ((perm_erase h1).trans ((perm_erase h2).cons _))
theorem shl_open {p : Pfx} (h : pmay p = true) : IntKind.i64.wrap (1 * 2 ^ min (4 - (p.len - 4 * ((lastN p : Nat) : Int))).toNat IntKind.i64.bits) = ((2 ^ openN p : Nat) : Int) := by
  obtain ⟨h1, h2⟩ := openN_eq h
  have e : (4 - (p.len - 4 * ((lastN p : Nat) : Int))).toNat = openN p := rfl
  rw [e]
  generalize openN p = x at h1
  match x, h1 with
  | 0, _ => rfl
  | 1, _ => rfl
  | 2, _ => rfl
  | 3, _ => rfl
  | 4, _ => rfl
instance (priority := low) Keep.drop {L L' : List Ent} {e : Ent} [k : Keep L L'] : Keep (e :: L) L' := ⟨by
  obtain ⟨R, hR⟩ := k.h
  exact ⟨e :: R, (hR.cons e).trans List.perm_middle.symm⟩⟩
section
variable {P : Program} {N : Fra} {w0 : World} {env : Env} {L : List Ent} {Q : Exit → Act → World → Prop} {d : Option Tmp} {ty : TypeId} {ps : String} {af : Array Edge} {gd : Option (Nat × Bool)} {K : Value → List Ent → Prop}
theorem Ry.to {o : Oper} {v v' : Value} (h : Ry P N w0 env L o v) (e : v = v') : Ry P N w0 env L o v' := e ▸ h
/-- A call of a function that is held as a value, with what it has caught. -/
theorem yl_fcall {f : FuncId} {x : Operand} {caps : Array Value} {xs : List Operand} {ts : Array TypeId} {vs : List Value} {v : Value} [hf : IsFn P f] (hx : ev env x = some (.func (.func f) #[] caps)) (hxs : evl env xs = some vs)
    (hc : ∀ w, Mem w0 L w → Calls P f (vs ++ caps.toList).toArray w fun e w' => e = .returned v ∧ Mem w [] w') :
    Yl P N w0 env L ⟨d, .call { callee := .value x, args := xs.toArray, argTypes := ts }, ty, ps, af, gd⟩ v := fun a ha w hw => by
  unfold Oper.quietAt
  obtain ⟨fn, h1, h2, h3⟩ := hf.fn
  have h2' : ¬ fn.body = none := fun e => by simp [e] at h2
  have h3' : ¬ fn.name = "runtime.NumGoroutine" := by simpa using h3
  have e : (execOp a.eval ⟨d, .call { callee := .value x, args := xs.toArray, argTypes := ts }, ty, ps, af, gd⟩).run P w = .ok (.enter f (vs ++ caps.toList).toArray) w := by
    have hm := ha.evl hxs
    simp [execOp, resolve, ha.ev hx, Deferred.ofValue, invoke, callFunc, h1, h2', h3', Result.andThen, ← hm]
  rw [e]
  exact ⟨rfl, hc w hw⟩
theorem ry_mkfunc {f : Fn} {xs : List Operand} {vs : List Value} (hx : evl env xs = some vs) : Ry P N w0 env L ⟨d, .makeFunc f #[] xs.toArray, ty, ps, af, gd⟩ (.func f #[] vs.toArray) := fun a w ha _ => by
  have hm := ha.evl hx
  simp [execOp, Instr.makeFunc, Result.andThen, ← hm]
instance (s : Sv) : CellAt (senc s) 0 s.val := ⟨rfl⟩
instance (s : Sv) : CellAt s.val.cells 0 s.val := ⟨by rw [Sv.cells_val]; rfl⟩
variable {s : Sv} {xs : List Nd} {a : Nd}
theorem st_stNx {t : TypeId} {x y : Operand} {i k p : Nat} {v : Int} [ht : OneT P t] (hx : ev env x = some (.pointer (some ⟨s.b, p, none⟩))) (hy : ev env y = some (.int .i64 v)) [q : Owns L s ncells 48 xs i] (ha : xs[k]? = some a) (b : Nat) (hb : b < 16) (hp' : p = s.o + k * 48 + 32 + b) {L' : List Ent} [hu : Upd L i (own ncells 48 s (xs.set k (a.setNx b v))) L'] (hk : K undef (L')) :
    Stp P N w0 env L ⟨none, .store t x y, ty, ps, af, none⟩ K :=
  st_storeS (j := 32 + b) (n := 1) (a' := a.setNx b v) ht.size hx hy (q := q) (by omega) ha (by simp [Value.cells, Value.oneCell']) rfl (by omega) (over_nx a hb v) hk
theorem st_stSl {t : TypeId} {x y : Operand} {i k p : Nat} {v : Slt} [ht : RowT P t 2] (hx : ev env x = some (.pointer (some ⟨s.b, p, none⟩))) (hy : ev env y = some (.agg (slcells v))) [q : Owns L s ncells 48 xs i] (ha : xs[k]? = some a) (b : Nat) (hb : b < 16) (hp' : p = s.o + k * 48 + b * 2) {L' : List Ent} [hu : Upd L i (own ncells 48 s (xs.set k (a.setSl b v))) L'] (hk : K undef (L')) :
    Stp P N w0 env L ⟨none, .store t x y, ty, ps, af, none⟩ K :=
  st_storeS (j := b * 2) (n := 2) (a' := a.setSl b v) ht.size hx hy (q := q) (by omega) ha (Enc.one v) rfl (by omega) (over_sl a hb v) hk
theorem st_stI {t : TypeId} {x y : Operand} {i k p : Nat} {s : Sv} {xs : List Int} {a v : Int} [ht : OneT P t] (hx : ev env x = some (.pointer (some ⟨s.b, p, none⟩))) (hy : ev env y = some (.int .i64 v)) [q : Owns L s iec 1 xs i] (ha : xs[k]? = some a) (hp' : p = s.o + k * 1) {L' : List Ent} [hu : Upd L i (own iec 1 s (xs.set k v)) L'] (hk : K undef (L')) :
    Stp P N w0 env L ⟨none, .store t x y, ty, ps, af, none⟩ K :=
  st_storeS (j := 0) (n := 1) (a' := v) ht.size hx hy (q := q) (by omega) ha (by simp [Value.cells, Value.oneCell']) rfl (by omega) (by rfl) hk
theorem st_stB {t : TypeId} {x y : Operand} {i k p : Nat} {s : Sv} {xs : List Bool} {a v : Bool} [ht : OneT P t] (hx : ev env x = some (.pointer (some ⟨s.b, p, none⟩))) (hy : ev env y = some (.bool v)) [q : Owns L s bec 1 xs i] (ha : xs[k]? = some a) (hp' : p = s.o + k * 1) {L' : List Ent} [hu : Upd L i (own bec 1 s (xs.set k v)) L'] (hk : K undef (L')) :
    Stp P N w0 env L ⟨none, .store t x y, ty, ps, af, none⟩ K :=
  st_storeS (j := 0) (n := 1) (a' := v) ht.size hx hy (q := q) (by omega) ha (by simp [Value.cells, Value.oneCell']) rfl (by omega) (by rfl) hk
theorem st_bstNx {t T : TypeId} {x y : Operand} {i k p : Nat} {v : Int} [ht : OneT P t] (hx : ev env x = some (.pointer (some ⟨k, p, none⟩))) (hy : ev env y = some (.int .i64 v)) [q : Has L k (ncells a) T i] (b : Nat) (hb : b < 16) (hp' : p = 32 + b) {L' : List Ent} [hu : Upd L i (blk k (ncells (a.setNx b v)) T) L'] (hk : K undef (L')) :
    Stp P N w0 env L ⟨none, .store t x y, ty, ps, af, none⟩ K := by
  subst hp'
  refine st_store (cs' := ncells (a.setNx b v)) hx hy (by rw [ncells_size]; omega) rfl ?_ hk
  rw [← over_nx a hb v]
  refine Array.ext_getElem? fun j => ?_
  rw [cells_over (by rw [ncells_size]; simp; omega), Array.getElem?_setIfInBounds]
  have e1 : (#[Value.int .i64 v] : Array Value).size = 1 := rfl
  by_cases h : 32 + b = j
  · subst h
    rw [if_pos rfl, if_pos (by rw [ncells_size]; omega), if_pos (by rw [e1]; omega), Nat.sub_self]; rfl
  · rw [if_neg h, if_neg (by rw [e1]; omega)]
theorem st_bstSl {t T : TypeId} {x y : Operand} {i k p : Nat} {v : Slt} [ht : RowT P t 2] (hx : ev env x = some (.pointer (some ⟨k, p, none⟩))) (hy : ev env y = some (.agg (slcells v))) [q : Has L k (ncells a) T i] (b : Nat) (hb : b < 16) (hp' : p = b * 2) {L' : List Ent} [hu : Upd L i (blk k (ncells (a.setSl b v)) T) L'] (hk : K undef (L')) :
    Stp P N w0 env L ⟨none, .store t x y, ty, ps, af, none⟩ K := by
  subst hp'
  exact st_storeN hx hy (by rw [ncells_size]; omega) (over_sl a hb v) hk
end
end Go.Eng
