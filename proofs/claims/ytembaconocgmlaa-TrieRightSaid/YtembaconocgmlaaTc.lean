/- A trie's nodes, its ways and whole numbers as cells: what is read and written of them. -/
import Derived.Test.YtembaconocgmlaaDt
import Derived.Test.YtembaconocgmlaaTp
set_option linter.unusedSimpArgs false
set_option linter.unusedVariables false
namespace Go.Kb
open Go.Eng

/-! Whole numbers. -/
def iec (x : Int) : Array Value := #[.int .i64 x]
instance : Enc iec 1 := ⟨fun _ => rfl, fun _ => by simp [iec, Value.oneCell']⟩
instance (x : Int) : CellAt (iec x) 0 (.int .i64 x) := ⟨rfl⟩
instance : Deep Int := Deep.flat iec 1
instance : FlatT Int iec 1 := ⟨rfl, fun _ => rfl⟩
instance : Plain Int := ⟨fun _ => rfl⟩

/-! Truths. -/
def bec (x : Bool) : Array Value := #[.bool x]
instance : Enc bec 1 := ⟨fun _ => rfl, fun _ => by simp [bec, Value.oneCell']⟩
instance (x : Bool) : CellAt (bec x) 0 (.bool x) := ⟨rfl⟩
instance : Deep Bool := Deep.flat bec 1
instance : FlatT Bool bec 1 := ⟨rfl, fun _ => rfl⟩
instance : Plain Bool := ⟨fun _ => rfl⟩

/-! Slots. -/
def slcells (s : Slt) : Array Value := #[.int .i64 s.len, .int .u16 s.hop.toNat]
instance : Enc slcells 2 := ⟨fun _ => rfl, fun _ => by simp [slcells, Value.oneCell']⟩
instance (s : Slt) : SizeIs (slcells s) 2 := ⟨rfl, Enc.one s⟩
instance (s : Slt) : CellAt (slcells s) 0 (.int .i64 s.len) := ⟨rfl⟩
instance (s : Slt) : CellAt (slcells s) 1 (.int .u16 s.hop.toNat) := ⟨rfl⟩

/-! Nodes. -/
def ncell (n : Nd) (j : Nat) : Value := if j < 32 then (if j % 2 = 0 then .int .i64 (n.sl (j / 2)).len else .int .u16 (n.sl (j / 2)).hop.toNat) else .int .i64 (n.nx (j - 32))
def ncells (n : Nd) : Array Value := ((List.range 48).map (ncell n)).toArray
theorem ncells_size (n : Nd) : (ncells n).size = 48 := by simp [ncells]
theorem ncells_get (n : Nd) (j : Nat) (h : j < 48) : (ncells n)[j]? = some (ncell n j) := by simp [ncells, h]
theorem ncells_none (n : Nd) (j : Nat) (h : 48 ≤ j) : (ncells n)[j]? = none := by simp [ncells]; omega
instance : Enc ncells 48 := ⟨ncells_size, fun n => by
  rw [Array.all_eq_true_iff_forall_mem]
  intro v hv
  simp only [ncells, List.mem_toArray, List.mem_map] at hv
  obtain ⟨j, _, rfl⟩ := hv
  unfold ncell; split
  · split <;> rfl
  · rfl⟩
instance (n : Nd) : SizeIs (ncells n) 48 := ⟨ncells_size n, Enc.one n⟩
instance : Deep Nd := Deep.flat ncells 48
instance : FlatT Nd ncells 48 := ⟨rfl, fun _ => rfl⟩
instance : Plain Nd := ⟨fun _ => rfl⟩
theorem ncells_len (n : Nd) {b : Nat} (h : b < 16) : (ncells n)[b * 2]? = some (.int .i64 (n.sl b).len) := by
  rw [ncells_get _ _ (by omega), ncell, if_pos (by omega), if_pos (by omega), show b * 2 / 2 = b by omega]
theorem ncells_hop (n : Nd) {b : Nat} (h : b < 16) : (ncells n)[b * 2 + 1]? = some (.int .u16 (n.sl b).hop.toNat) := by
  rw [ncells_get _ _ (by omega), ncell, if_pos (by omega), if_neg (by omega), show (b * 2 + 1) / 2 = b by omega]
theorem ncells_nx (n : Nd) {b : Nat} (h : b < 16) : (ncells n)[32 + b]? = some (.int .i64 (n.nx b)) := by
  rw [ncells_get _ _ (by omega), ncell, if_neg (by omega), show 32 + b - 32 = b by omega]
theorem ncells_sl (n : Nd) {b : Nat} (h : b < 16) : PartAt (ncells n) (b * 2) 2 (slcells (n.sl b)) := ⟨rfl, fun j hj => by
  match j, hj with
  | 0, _ => exact ncells_len n h
  | 1, _ => exact ncells_hop n h⟩
theorem over_nx (n : Nd) {b : Nat} (h : b < 16) (x : Int) : over (ncells n) (32 + b) #[.int .i64 x] = ncells (n.setNx b x) := Array.ext_getElem? fun j => by
  rw [cells_over (by rw [ncells_size]; simp; omega)]
  rcases Nat.lt_or_ge j 48 with hj | hj
  · rw [ncells_get n j hj, ncells_get (n.setNx b x) j hj]
    split
    · rename_i h2
      have e : j = 32 + b := by simp at h2; omega
      subst e
      rw [Nat.sub_self, ncell, if_neg (by omega), show 32 + b - 32 = b by omega, Nd.nx_set h, if_pos rfl]; rfl
    · rename_i h2
      rw [ncell, ncell]
      by_cases h3 : j < 32
      · rw [if_pos h3, if_pos h3, Nd.sl_setNx]
      · rw [if_neg h3, if_neg h3, Nd.nx_set h, if_neg]
        simp at h2; omega
  · rw [if_neg (by simp; omega), ncells_none _ _ hj, ncells_none _ _ hj]
theorem over_sl (n : Nd) {b : Nat} (h : b < 16) (s : Slt) : over (ncells n) (b * 2) (slcells s) = ncells (n.setSl b s) := Array.ext_getElem? fun j => by
  have hs : (slcells s).size = 2 := rfl
  rw [cells_over (by rw [ncells_size, hs]; omega), hs]
  rcases Nat.lt_or_ge j 48 with hj | hj
  · rw [ncells_get n j hj, ncells_get (n.setSl b s) j hj]
    split
    · rename_i h2
      rw [ncell, if_pos (by omega)]
      rcases Nat.lt_or_ge j (b * 2 + 1) with h3 | h3
      · obtain rfl : j = b * 2 := by omega
        rw [if_pos (by omega), show b * 2 / 2 = b by omega, Nd.sl_set h, if_pos rfl, Nat.sub_self]; rfl
      · obtain rfl : j = b * 2 + 1 := by omega
        rw [if_neg (by omega), show (b * 2 + 1) / 2 = b by omega, Nd.sl_set h, if_pos rfl, show b * 2 + 1 - b * 2 = 1 by omega]; rfl
    · rename_i h2
      rw [ncell, ncell]
      by_cases h3 : j < 32
      · have hne : ¬ b = j / 2 := by omega
        rw [if_pos h3, if_pos h3, Nd.sl_set h]; simp only [if_neg hne]
      · rw [if_neg h3, if_neg h3, Nd.nx_setSl]
  · rw [if_neg (by omega), ncells_none _ _ hj, ncells_none _ _ hj]
theorem u16_inj {a b : UInt16} (h : (a.toNat : Int) = b.toNat) : a = b := UInt16.toNat_inj.1 (by omega)
theorem ncells_inj {a b : Nd} (h : ncells a = ncells b) : a = b := Nd.ext' (fun i hi => by
    have h1 := ncells_len a hi
    have h2 := ncells_hop a hi
    rw [h, ncells_len b hi] at h1
    rw [h, ncells_hop b hi] at h2
    simp only [Option.some.injEq, Value.int.injEq, true_and] at h1 h2
    cases ha : a.sl i; cases hb : b.sl i
    rw [ha, hb] at h1 h2
    simp only at h1 h2
    rw [h1, u16_inj h2])
  fun i hi => by
    have h1 := ncells_nx a hi
    rw [h, ncells_nx b hi] at h1
    simp only [Option.some.injEq, Value.int.injEq, true_and] at h1
    exact h1.symm

/-! Ways. -/
def wcells (w : Wy) : Array Value := #[.int .i64 (w.steps : Nat)] ++ kcells w.key
theorem wcells_size (w : Wy) : (wcells w).size = 17 := by unfold wcells; rw [Array.size_append, kcells_size]; rfl
theorem wcells_0 (w : Wy) : (wcells w)[0]? = some (.int .i64 (w.steps : Nat)) := by unfold wcells; rw [Array.getElem?_append]; rfl
theorem wcells_k (w : Wy) (j : Nat) : (wcells w)[1 + j]? = (kcells w.key)[j]? := by
  unfold wcells; rw [Array.getElem?_append_right (by simp)]; congr 1; simp
theorem kc_one (k : Key) : (kcells k).all (·.oneCell') = true := by
  rw [Array.all_eq_true_iff_forall_mem]
  intro v hv
  simp only [kcells, List.mem_toArray, List.mem_map] at hv
  obtain ⟨j, _, rfl⟩ := hv
  rfl
instance : Enc wcells 17 := ⟨wcells_size, fun w => by rw [wcells, Array.all_append, kc_one]; simp [Value.oneCell']⟩
instance (w : Wy) : SizeIs (wcells w) 17 := ⟨wcells_size w, Enc.one w⟩
instance (w : Wy) : CellAt (wcells w) 0 (.int .i64 (w.steps : Nat)) := ⟨wcells_0 w⟩
instance (w : Wy) : PartAt (wcells w) 1 16 (kcells w.key) := ⟨kcells_size _, fun j _ => wcells_k w j⟩
instance : Deep Wy := Deep.flat wcells 17
instance : FlatT Wy wcells 17 := ⟨rfl, fun _ => rfl⟩
instance : Plain Wy := ⟨fun _ => rfl⟩
theorem wcells_inj {a b : Wy} (h : wcells a = wcells b) : a = b := by
  have h1 := wcells_0 a
  rw [h, wcells_0] at h1
  simp only [Option.some.injEq, Value.int.injEq, true_and] at h1
  have h2 : kcells a.key = kcells b.key := Array.ext_getElem? fun j => by rw [← wcells_k, ← wcells_k, h]
  obtain ⟨s, k⟩ := a
  obtain ⟨s', k'⟩ := b
  simp only at h1 h2
  rw [kcells_inj h2, show s = s' by omega]

/-! Tries. -/
structure Tri where
  bits : Int
  ns : Sl Nd
def tcells (t : Tri) : Array Value := #[.int .i64 t.bits, t.ns.sv.val]
instance : Enc tcells 2 := ⟨fun _ => rfl, fun t => by
  have h1 : (Value.int .i64 t.bits).oneCell' = true := rfl
  simp only [tcells, List.all_toArray, List.all_cons, List.all_nil, Sv.one, h1, Bool.and_self]⟩
instance (t : Tri) : SizeIs (tcells t) 2 := ⟨rfl, Enc.one t⟩
instance (t : Tri) : PartAt (tcells t) 0 2 (tcells t) := ⟨rfl, fun j _ => by rw [Nat.zero_add]⟩
instance (t : Tri) : CellAt (tcells t) 0 (.int .i64 t.bits) := ⟨rfl⟩
instance (t : Tri) : CellAt (tcells t) 1 t.ns.sv.val := ⟨rfl⟩
instance : Deep Tri where
  c := 2
  cells := tcells
  size := Enc.size
  one := Enc.one
  good h x := Deep.good h x.ns
  ent x := Deep.ent x.ns
  good_of h x hs := Deep.good_of h x.ns hs
  mono w w' x := Deep.mono w w' x.ns
instance : FlatT Tri tcells 2 := ⟨rfl, fun _ => rfl⟩
instance {w0 : World} {L : List Ent} {x : Tri} [q : HdD w0 L x] : HdD w0 L x.ns := ⟨q.h⟩
instance {w0 : World} {L : List Ent} {b : Int} {s : Sl Nd} [q : HdD w0 L s] : HdD w0 L (Tri.mk b s) := ⟨q.h⟩
instance {w0 : World} {L : List Ent} {x : Tri} [q : HdD w0 L x] : Hd w0 L x.ns.sv ncells 48 x.ns.xs := (inferInstance : Hd w0 L x.ns.sv ncells 48 x.ns.xs)
instance {L R : List Ent} {x : Tri} [k : Take L x.ns R] : Take L x R := ⟨k.h⟩
instance {L R : List Ent} {i : Int} {b : Sl Nd} [k : Take L b R] : Take L (Tri.mk i b) R := ⟨k.h⟩
end Go.Kb
namespace Go.Eng
open Go.Kb
section
variable {P : Program} {N : Fra} {w0 : World} {env : Env} {L : List Ent} {d : Option Tmp} {ty : TypeId} {ps : String} {af : Array Edge} {gd : Option (Nat × Bool)}
/-- A pointer that isn't nil. -/
theorem ry_nilp {x : Operand} {a : Addr} (hx : ev env x = some (.pointer (some a))) : Ry P N w0 env L ⟨d, .nilCheck x, ty, ps, af, gd⟩ (.pointer (some a)) := fun _ w ha _ => by
  simp only [execOp, ha.ev hx, Sem.run_pure]
variable {s : Sv} {xs : List Nd} {a : Nd}
/-! What is read of a node in a slice. -/
theorem ry_nx {t : TypeId} {x : Operand} {p : Nat} [ht : OneT P t] [q : Hd w0 L s ncells 48 xs] (hx : ev env x = some (.pointer (some ⟨s.b, p, none⟩))) (i : Nat) (hi : xs[i]? = some a) (b : Nat) (hb : b < 16) (hp' : p = s.o + i * 48 + 32 + b) :
    Ry P N w0 env L ⟨d, .load t x, ty, ps, af, gd⟩ (.int .i64 (a.nx b)) := ry_elemc (j := 32 + b) hx q.h hi (by omega) (by omega) (ncells_nx a hb)
theorem ry_slen {t : TypeId} {x : Operand} {p : Nat} [ht : OneT P t] [q : Hd w0 L s ncells 48 xs] (hx : ev env x = some (.pointer (some ⟨s.b, p, none⟩))) (i : Nat) (hi : xs[i]? = some a) (b : Nat) (hb : b < 16) (hp' : p = s.o + i * 48 + b * 2) :
    Ry P N w0 env L ⟨d, .load t x, ty, ps, af, gd⟩ (.int .i64 (a.sl b).len) := ry_elemc (j := b * 2) hx q.h hi (by omega) (by omega) (ncells_len a hb)
theorem ry_shop {t : TypeId} {x : Operand} {p : Nat} [ht : OneT P t] [q : Hd w0 L s ncells 48 xs] (hx : ev env x = some (.pointer (some ⟨s.b, p, none⟩))) (i : Nat) (hi : xs[i]? = some a) (b : Nat) (hb : b < 16) (hp' : p = s.o + i * 48 + b * 2 + 1) :
    Ry P N w0 env L ⟨d, .load t x, ty, ps, af, gd⟩ (.int .u16 (a.sl b).hop.toNat) := ry_elemc (j := b * 2 + 1) hx q.h hi (by omega) (by omega) (ncells_hop a hb)
theorem ry_slot {t : TypeId} {x : Operand} {p : Nat} [ht : RowT P t 2] [q : Hd w0 L s ncells 48 xs] (hx : ev env x = some (.pointer (some ⟨s.b, p, none⟩))) (i : Nat) (hi : xs[i]? = some a) (b : Nat) (hb : b < 16) (hp' : p = s.o + i * 48 + b * 2) :
    Ry P N w0 env L ⟨d, .load t x, ty, ps, af, gd⟩ (.agg (slcells (a.sl b))) :=
  have := ncells_sl a hb
  ry_elemp (j := b * 2) hx q.h hi (by omega) (by omega)
/-! .. of one in a block. -/
theorem ry_bnx {t T : TypeId} {x : Operand} {p k i : Nat} [ht : OneT P t] [q : Has L k (ncells a) T i] (hx : ev env x = some (.pointer (some ⟨k, p, none⟩))) (b : Nat) (hb : b < 16) (hp' : p = 32 + b) :
    Ry P N w0 env L ⟨d, .load t x, ty, ps, af, gd⟩ (.int .i64 (a.nx b)) := ry_cell hx (by rw [hp']; exact ncells_nx a hb)
theorem ry_bslen {t T : TypeId} {x : Operand} {p k i : Nat} [ht : OneT P t] [q : Has L k (ncells a) T i] (hx : ev env x = some (.pointer (some ⟨k, p, none⟩))) (b : Nat) (hb : b < 16) (hp' : p = b * 2) :
    Ry P N w0 env L ⟨d, .load t x, ty, ps, af, gd⟩ (.int .i64 (a.sl b).len) := ry_cell hx (by rw [hp']; exact ncells_len a hb)
theorem ry_bshop {t T : TypeId} {x : Operand} {p k i : Nat} [ht : OneT P t] [q : Has L k (ncells a) T i] (hx : ev env x = some (.pointer (some ⟨k, p, none⟩))) (b : Nat) (hb : b < 16) (hp' : p = b * 2 + 1) :
    Ry P N w0 env L ⟨d, .load t x, ty, ps, af, gd⟩ (.int .u16 (a.sl b).hop.toNat) := ry_cell hx (by rw [hp']; exact ncells_hop a hb)
theorem ry_bslot {t T : TypeId} {x : Operand} {p k i : Nat} [ht : RowT P t 2] [q : Has L k (ncells a) T i] (hx : ev env x = some (.pointer (some ⟨k, p, none⟩))) (b : Nat) (hb : b < 16) (hp' : p = b * 2) :
    Ry P N w0 env L ⟨d, .load t x, ty, ps, af, gd⟩ (.agg (slcells (a.sl b))) := by
  subst hp'
  have := ncells_sl a hb
  exact ry_part hx
end
section
variable {P : Program} {N : Fra} {w0 : World} {env : Env} {L : List Ent} {l : List Oper} {Q : Exit → Act → World → Prop} {rest : List Oper} {ty : TypeId} {ps : String} {af : Array Edge}
variable {s : Sv} {xs : List Nd} {a : Nd}
/-! What is written. -/
theorem sq_stNx {t : TypeId} {x y : Operand} {i k p : Nat} {v : Int} [ht : OneT P t] (hx : ev env x = some (.pointer (some ⟨s.b, p, none⟩))) (hy : ev env y = some (.int .i64 v)) [q : Owns L s ncells 48 xs i] (ha : xs[k]? = some a) (b : Nat) (hb : b < 16) (hp' : p = s.o + k * 48 + 32 + b) {L' : List Ent} [hu : Upd L i (own ncells 48 s (xs.set k (a.setNx b v))) L'] (hk : Sq P N w0 l Q rest env L') :
    Sq P N w0 l Q (⟨none, .store t x y, ty, ps, af, none⟩ :: rest) env L :=
  sq_storeS (j := 32 + b) (n := 1) (a' := a.setNx b v) ht.size hx hy (q := q) (by omega) ha (by simp [Value.cells, Value.oneCell']) rfl (by omega) (over_nx a hb v) hk
theorem sq_stSl {t : TypeId} {x y : Operand} {i k p : Nat} {v : Slt} [ht : RowT P t 2] (hx : ev env x = some (.pointer (some ⟨s.b, p, none⟩))) (hy : ev env y = some (.agg (slcells v))) [q : Owns L s ncells 48 xs i] (ha : xs[k]? = some a) (b : Nat) (hb : b < 16) (hp' : p = s.o + k * 48 + b * 2) {L' : List Ent} [hu : Upd L i (own ncells 48 s (xs.set k (a.setSl b v))) L'] (hk : Sq P N w0 l Q rest env L') :
    Sq P N w0 l Q (⟨none, .store t x y, ty, ps, af, none⟩ :: rest) env L :=
  sq_storeS (j := b * 2) (n := 2) (a' := a.setSl b v) ht.size hx hy (q := q) (by omega) ha (Enc.one v) rfl (by omega) (over_sl a hb v) hk
theorem sq_stI {t : TypeId} {x y : Operand} {i k p : Nat} {s : Sv} {xs : List Int} {a v : Int} [ht : OneT P t] (hx : ev env x = some (.pointer (some ⟨s.b, p, none⟩))) (hy : ev env y = some (.int .i64 v)) [q : Owns L s iec 1 xs i] (ha : xs[k]? = some a) (hp' : p = s.o + k * 1) {L' : List Ent} [hu : Upd L i (own iec 1 s (xs.set k v)) L'] (hk : Sq P N w0 l Q rest env L') :
    Sq P N w0 l Q (⟨none, .store t x y, ty, ps, af, none⟩ :: rest) env L :=
  sq_storeS (j := 0) (n := 1) (a' := v) ht.size hx hy (q := q) (by omega) ha (by simp [Value.cells, Value.oneCell']) rfl (by omega) (by rfl) hk
theorem sq_stB {t : TypeId} {x y : Operand} {i k p : Nat} {s : Sv} {xs : List Bool} {a v : Bool} [ht : OneT P t] (hx : ev env x = some (.pointer (some ⟨s.b, p, none⟩))) (hy : ev env y = some (.bool v)) [q : Owns L s bec 1 xs i] (ha : xs[k]? = some a) (hp' : p = s.o + k * 1) {L' : List Ent} [hu : Upd L i (own bec 1 s (xs.set k v)) L'] (hk : Sq P N w0 l Q rest env L') :
    Sq P N w0 l Q (⟨none, .store t x y, ty, ps, af, none⟩ :: rest) env L :=
  sq_storeS (j := 0) (n := 1) (a' := v) ht.size hx hy (q := q) (by omega) ha (by simp [Value.cells, Value.oneCell']) rfl (by omega) (by rfl) hk
theorem sq_bstNx {t T : TypeId} {x y : Operand} {i k p : Nat} {v : Int} [ht : OneT P t] (hx : ev env x = some (.pointer (some ⟨k, p, none⟩))) (hy : ev env y = some (.int .i64 v)) [q : Has L k (ncells a) T i] (b : Nat) (hb : b < 16) (hp' : p = 32 + b) {L' : List Ent} [hu : Upd L i (blk k (ncells (a.setNx b v)) T) L'] (hk : Sq P N w0 l Q rest env L') :
    Sq P N w0 l Q (⟨none, .store t x y, ty, ps, af, none⟩ :: rest) env L := by
  subst hp'
  refine sq_store (cs' := ncells (a.setNx b v)) hx hy (by rw [ncells_size]; omega) rfl ?_ hk
  rw [← over_nx a hb v]
  refine Array.ext_getElem? fun j => ?_
  rw [cells_over (by rw [ncells_size]; simp; omega), Array.getElem?_setIfInBounds]
  have e1 : (#[Value.int .i64 v] : Array Value).size = 1 := rfl
  by_cases h : 32 + b = j
  · subst h
    rw [if_pos rfl, if_pos (by rw [ncells_size]; omega), if_pos (by rw [e1]; omega), Nat.sub_self]; rfl
  · rw [if_neg h, if_neg (by rw [e1]; omega)]
theorem sq_bstSl {t T : TypeId} {x y : Operand} {i k p : Nat} {v : Slt} [ht : RowT P t 2] (hx : ev env x = some (.pointer (some ⟨k, p, none⟩))) (hy : ev env y = some (.agg (slcells v))) [q : Has L k (ncells a) T i] (b : Nat) (hb : b < 16) (hp' : p = b * 2) {L' : List Ent} [hu : Upd L i (blk k (ncells (a.setSl b v)) T) L'] (hk : Sq P N w0 l Q rest env L') :
    Sq P N w0 l Q (⟨none, .store t x y, ty, ps, af, none⟩ :: rest) env L := by
  subst hp'
  exact sq_storeN hx hy (by rw [ncells_size]; omega) (over_sl a hb v) hk
end
end Go.Eng
