/- Arguments opened: what is read of them as data lies in memory as a value of a Lean type. -/
import Derived.Test.YtldkgicmfbofiaaDoorRow
import Derived.Test.YtldkgicmfbofiaaDoorDp
import Derived.Deep.Slices
import Derived.HandedShaped
set_option linter.unusedSimpArgs false
set_option linter.unusedVariables false
namespace Go.Eng
open Go.ChangeShapes Go.WideShapes Go.ChangeAt Go.RowKit Go.Kb

variable {P : Program}

theorem list_of {α : Type} {p : Nat → α → Prop} : ∀ {n : Nat}, (∀ i, i < n → ∃ x, p i x) → ∃ l : List α, l.length = n ∧ ∀ i x, l[i]? = some x → p i x
  | 0, _ => ⟨[], rfl, fun i x h => by simp at h⟩
  | n + 1, h => by
    obtain ⟨l, hl, hp⟩ := list_of (n := n) fun i hi => h i (by omega)
    obtain ⟨x, hx⟩ := h n (by omega)
    refine ⟨l ++ [x], by simp [hl], fun i y hy => ?_⟩
    by_cases hi : i < n
    · rw [List.getElem?_append_left (by omega)] at hy; exact hp i y hy
    · have : i = n := by
        have := (List.getElem?_eq_some_iff.1 hy).1
        rw [List.length_append, hl] at this; simp at this; omega
      subst this
      rw [List.getElem?_append_right (by omega), hl] at hy
      have : x = y := by simpa using hy
      exact this ▸ hx

/-- A value of type t that is read is one of τ. -/
class OpenT (P : Program) (t : TypeId) (τ : Type) [Deep τ] : Prop where
  sz : P.cellsOf t = Deep.c τ
  h : ∀ {H : Type} {enc : TypeId × Value → H} {w : World} {fuel : Nat} {cs : List Value} {d : DataW H} {ps : List MemPlace}, DataW.trod enc P w 0 (fun _ => true) true fuel t cs = some (d, ps) → (∀ n ∈ d.weights P t, n ≤ reachBytes) →
    ∃ x : τ, (Deep.cells x).toList = cs ∧ Deep.good (hp w) x

theorem cells_get {w : World} {b : Nat} {a : Addr} {n : Nat} {cs : List Value} (h : w.cells? b a n = some cs) : cs.length = n ∧ ∀ j, j < n → w.cell? (a.add j) = cs[j]? := by
  unfold World.cells? at h
  split at h
  · have hl := mapM_some_length h
    refine ⟨by simpa using hl, fun j hj => ?_⟩
    exact mapM_some_get h j j (by simp [hj])
  · cases h

theorem mem_weightsAll {H : Type} {e : TypeId} {n : Nat} : ∀ {l : List (DataW H)} {d : DataW H}, d ∈ l → n ∈ d.weights P e → n ∈ DataW.weightsAll P e l
  | x :: l, d, hd, hn => by
    rw [DataW.weightsAll]
    rcases List.mem_cons.1 hd with rfl | hd
    · exact List.mem_append_left _ hn
    · exact List.mem_append_right _ (mem_weightsAll hd hn)
theorem mem_weightsEach {H : Type} {n : Nat} : ∀ {ts : List TypeId} {l : List (DataW H)} {i : Nat} {t : TypeId} {d : DataW H}, ts[i]? = some t → l[i]? = some d → n ∈ d.weights P t → n ∈ DataW.weightsEach P ts l
  | [], _, i, _, _, h, _, _ => by simp at h
  | _ :: _, [], i, _, _, _, h, _ => by simp at h
  | t0 :: ts, d0 :: l, 0, t, d, ht, hd, hn => by
    obtain rfl : t0 = t := by simpa using ht
    obtain rfl : d0 = d := by simpa using hd
    rw [DataW.weightsEach]; exact List.mem_append_left _ hn
  | t0 :: ts, d0 :: l, i + 1, t, d, ht, hd, hn => by
    rw [DataW.weightsEach]; exact List.mem_append_right _ (mem_weightsEach (i := i) (by simpa using ht) (by simpa using hd) hn)

theorem reach_le : reachBytes ≤ 140737488355328 := by decide

/-- Slices. -/
theorem open_sl {t e : TypeId} {τ : Type} [Deep τ] (hu : P.underlying t = some (.slice e)) (hb' : Nat.ble 1 (P.bytesOf e) = true) (hc : 1 ≤ Deep.c τ) (hs : P.cellsOf t = 1) [o : OpenT P e τ] : OpenT P t (Sl τ) := ⟨hs, fun {H enc w fuel cs d ps} h hw => by
  have hb : 1 ≤ P.bytesOf e := Nat.le_of_ble_eq_true hb'
  rcases Go.Deep.open_slice hu h with ⟨rfl, _⟩ | ⟨a, len, cap, m, n, D, Pl, rfl, _, hl, _, hm, hx, hel⟩
  · exact ⟨⟨Sv.none, []⟩, rfl, good_none⟩
  · simp only [if_true] at hm
    subst hm
    have hd : d = .slice ((List.range len).map D) ((List.range (m - len)).map fun j => D (len + j)) := congrArg Prod.fst hx
    subst hd
    simp only [DataW.weights, hu, List.length_map, List.length_range] at hw
    have hcap : m ≤ 140737488355328 := by
      have h1 := hw _ (List.mem_cons_self ..)
      have h2 : (len + (m - len)) * 1 ≤ (len + (m - len)) * P.bytesOf e := Nat.mul_le_mul_left _ hb
      have := reach_le; omega
    have hcells : ∀ i, i < m → ∃ cs', (cs'.length = Deep.c τ ∧ ∀ j, j < Deep.c τ → w.cell? ((a.add (i * Deep.c τ)).add j) = cs'[j]?) ∧ DataW.trod enc P w 0 (fun _ => true) true n e cs' = some (D i, Pl i) := fun i hi => by
      obtain ⟨cs', h1, h2⟩ := hel i hi
      rw [o.sz] at h1
      exact ⟨cs', cells_get h1, h2⟩
    have hspot : 0 < m → a.spot = none := fun hm => by
      obtain ⟨cs', ⟨h1, h2⟩, _⟩ := hcells 0 hm
      have h3 := h2 0 (by omega)
      have e0 : (a.add (0 * Deep.c τ)).add 0 = a := by simp [Addr.add]
      rw [e0, List.getElem?_eq_getElem (by omega)] at h3
      unfold World.cell? at h3
      split at h3
      · split at h3
        · cases h3
        · rename_i hs; simpa using hs
      · cases h3
    obtain ⟨l, hll, hlp⟩ := list_of (p := fun i (x : τ) => (∀ j, j < Deep.c τ → w.cell? ((a.add (i * Deep.c τ)).add j) = (Deep.cells x)[j]?) ∧ Deep.good (hp w) x) (n := len) fun i hi => by
      obtain ⟨cs', ⟨h1, h2⟩, h3⟩ := hcells i (by omega)
      obtain ⟨x, hx1, hx2⟩ := o.h h3 (fun k hk => hw k (List.mem_cons_of_mem _ (List.mem_append_left _ (mem_weightsAll (List.mem_map.2 ⟨i, List.mem_range.2 hi, rfl⟩) hk))))
      refine ⟨x, fun j hj => ?_, hx2⟩
      rw [h2 j hj, ← hx1]; simp
    refine ⟨⟨⟨false, a.block, a.off, len, m, a.spot⟩, l⟩, rfl, ⟨⟨(fun h => by cases h), hl, by simp only; omega, hspot⟩, by simp [hll], fun i x hi j hj => ?_⟩, fun x hx => ?_⟩
    · have hil : i < len := by rw [← hll]; exact (List.getElem?_eq_some_iff.1 hi).1
      have h1 := (hlp i x hi).1 j hj
      have hs := hspot (by omega)
      have ea : (a.add (i * Deep.c τ)).add j = ⟨a.block, a.off + i * Deep.c τ + j, none⟩ := by
        obtain ⟨ab, ao, asp⟩ := a
        simp only at hs
        subst hs
        rw [Addr.add_none, Addr.add_none]
      rw [ea, cell_hp] at h1
      exact h1
    · obtain ⟨i, hi⟩ := List.getElem?_of_mem hx
      exact (hlp i x hi).2⟩

/-- A field of a struct. -/
theorem open_field {H : Type} {enc : TypeId × Value → H} {w : World} {fuel : Nat} {t : TypeId} {cs : List Value} {d : DataW H} {ps : List MemPlace} {fs : Array Field} (hu : P.underlying t = some (.struct fs)) (h : DataW.trod enc P w 0 (fun _ => true) true fuel t cs = some (d, ps)) (hw : ∀ n ∈ d.weights P t, n ≤ reachBytes)
    {i tf off : Nat} (hf0 : (fs[i]?).map (fun f => (f.type, f.offset)) = some (tf, off)) (τ : Type) [Deep τ] [o : OpenT P tf τ] : cs.length = P.cellsOf t ∧ ∃ x : τ, (Deep.cells x).toList = (cs.drop off).take (Deep.c τ) ∧ Deep.good (hp w) x := by
  obtain ⟨f, hf, e⟩ := Option.map_eq_some_iff.1 hf0
  obtain ⟨rfl, rfl⟩ := Prod.mk.inj e
  obtain ⟨xs, n, _, hx, hl, hlen, hg⟩ := DataW.trod_struct hu h
  have h1 := hg i f hf
  have hi : i < xs.length := by rw [hlen]; exact (Array.getElem?_eq_some_iff.1 hf).1
  rw [List.getElem?_eq_getElem hi, o.sz] at h1
  have hd : d = .agg (xs.map (·.1)) := congrArg Prod.fst hx
  subst hd
  obtain ⟨x, hx1, hx2⟩ := o.h (d := xs[i].1) (ps := xs[i].2) h1 (fun k hk => hw k (by
    simp only [DataW.weights, hu]
    exact mem_weightsEach (i := i) (t := f.type) (d := xs[i].1) (by
      have : fs.toList[i]? = some f := by simpa using hf
      rw [List.getElem?_map, this]; rfl) (by simp [hi]) hk))
  exact ⟨hl, x, hx1, hx2⟩
/-- An element of an array. -/
theorem open_elem {H : Type} {enc : TypeId × Value → H} {w : World} {fuel : Nat} {t e : TypeId} {m : Nat} {cs : List Value} {d : DataW H} {ps : List MemPlace} (hu : P.underlying t = some (.array m e)) (h : DataW.trod enc P w 0 (fun _ => true) true fuel t cs = some (d, ps)) (hw : ∀ n ∈ d.weights P t, n ≤ reachBytes)
    (τ : Type) [Deep τ] [o : OpenT P e τ] : cs.length = P.cellsOf t ∧ ∀ i, i < m → ∃ x : τ, (Deep.cells x).toList = (cs.drop (i * Deep.c τ)).take (Deep.c τ) ∧ Deep.good (hp w) x := by
  cases fuel with
  | zero => simp [DataW.trod] at h
  | succ n =>
    unfold DataW.trod at h
    rw [hu] at h
    split at h <;> simp_all
    rename_i m' e' heq
    obtain ⟨hl, xs, hp', hd⟩ := h
    obtain ⟨rfl, rfl⟩ := heq
    intro i hi
    have hlen := mapM_some_length hp'
    have hi' : i < xs.length := by simpa [hlen] using hi
    have h1 := mapM_some_get hp' i i (by simp [hi])
    rw [List.getElem?_eq_getElem hi', o.sz] at h1
    obtain ⟨rfl, -⟩ := hd
    exact o.h (d := xs[i].1) (ps := xs[i].2) h1 (fun k hk => hw k (by
      simp only [DataW.weights, hu]
      exact mem_weightsAll (List.mem_map_of_mem (List.getElem_mem hi')) hk))

theorem cut2 {α : Type} {cs : List α} {a b : Nat} (h : cs.length = a + b) : (cs.drop 0).take a ++ (cs.drop a).take b = cs := by
  rw [List.drop_zero, List.take_of_length_le (l := cs.drop a) (by rw [List.length_drop]; omega), List.take_append_drop]
theorem cut3 {α : Type} {cs : List α} {a b c : Nat} (h : cs.length = a + b + c) : (cs.drop 0).take a ++ (cs.drop a).take b ++ (cs.drop (a + b)).take c = cs := by
  have h1 := cut2 (cs := cs) (a := a + b) (b := c) (by omega)
  conv => rhs; rw [← h1]
  congr 1
  rw [List.drop_zero, List.take_add]
theorem cut4 {α : Type} {cs : List α} {a b c d : Nat} (h : cs.length = a + b + c + d) : (cs.drop 0).take a ++ (cs.drop a).take b ++ (cs.drop (a + b)).take c ++ (cs.drop (a + b + c)).take d = cs := by
  have h1 := cut2 (cs := cs) (a := a + b + c) (b := d) (by omega)
  conv => rhs; rw [← h1]
  congr 1
  rw [List.drop_zero, List.take_add, List.take_add]

/-! Numbers. -/
def ienc (n : Int) : Array Value := #[.int .i64 n]
instance : Enc ienc 1 := ⟨fun _ => rfl, fun _ => by simp [ienc, Value.oneCell']⟩
instance : Deep Int := Deep.flat ienc 1
instance : FlatT Int ienc 1 := ⟨rfl, fun _ => rfl⟩
instance : Plain Int := ⟨fun _ => rfl⟩
instance (n : Int) : CellAt (ienc n) 0 (.int .i64 n) := ⟨rfl⟩
def henc (n : UInt16) : Array Value := #[.int .u16 n.toNat]
instance : Enc henc 1 := ⟨fun _ => rfl, fun _ => by simp [henc, Value.oneCell']⟩
instance : Deep UInt16 := Deep.flat henc 1
instance : FlatT UInt16 henc 1 := ⟨rfl, fun _ => rfl⟩
instance : Plain UInt16 := ⟨fun _ => rfl⟩
instance (n : UInt16) : CellAt (henc n) 0 (.int .u16 n.toNat) := ⟨rfl⟩
def tenc (b : Bool) : Array Value := #[.bool b]
instance : Enc tenc 1 := ⟨fun _ => rfl, fun _ => by simp [tenc, Value.oneCell']⟩
instance : Deep Bool := Deep.flat tenc 1
instance : FlatT Bool tenc 1 := ⟨rfl, fun _ => rfl⟩
instance : Plain Bool := ⟨fun _ => rfl⟩
instance (b : Bool) : CellAt (tenc b) 0 (.bool b) := ⟨rfl⟩

theorem open_i64 {t : TypeId} (hu : P.underlying t = some (.int .i64)) (hs : P.cellsOf t = 1) : OpenT P t Int := ⟨hs, fun h _ => by
  obtain ⟨n, rfl, _, _⟩ := DataW.trod_int hu h
  exact ⟨n, rfl, trivial⟩⟩
theorem open_u8 {t : TypeId} (hu : P.underlying t = some (.int .u8)) (hs : P.cellsOf t = 1) : OpenT P t UInt8 := ⟨hs, fun h _ => by
  obtain ⟨n, rfl, _, hw⟩ := DataW.trod_int hu h
  simp only [Lit.wf, Bool.and_eq_true, decide_eq_true_eq] at hw
  have h1 : (0 : Int) ≤ n := hw.1
  have h2 : n ≤ (255 : Int) := hw.2
  refine ⟨UInt8.ofNat n.toNat, ?_, trivial⟩
  have : ((UInt8.ofNat n.toNat).toNat : Int) = n := by simp; omega
  show (benc (UInt8.ofNat n.toNat)).toList = _
  simp only [benc, this]⟩
theorem open_u16 {t : TypeId} (hu : P.underlying t = some (.int .u16)) (hs : P.cellsOf t = 1) : OpenT P t UInt16 := ⟨hs, fun h _ => by
  obtain ⟨n, rfl, _, hw⟩ := DataW.trod_int hu h
  simp only [Lit.wf, Bool.and_eq_true, decide_eq_true_eq] at hw
  have h1 : (0 : Int) ≤ n := hw.1
  have h2 : n ≤ (65535 : Int) := hw.2
  refine ⟨UInt16.ofNat n.toNat, ?_, trivial⟩
  have : ((UInt16.ofNat n.toNat).toNat : Int) = n := by simp; omega
  show (henc (UInt16.ofNat n.toNat)).toList = _
  simp only [henc, this]⟩
theorem open_bool {t : TypeId} (hu : P.underlying t = some .bool) (hs : P.cellsOf t = 1) : OpenT P t Bool := ⟨hs, fun h _ => by
  obtain ⟨n, rfl, _⟩ := DataW.trod_bool hu h
  exact ⟨n, rfl, trivial⟩⟩

/-! Arguments. -/
theorem arg_sl {H : Type} {enc : TypeId × Value → H} {w : World} {b : Nat} {t e : TypeId} {τ : Type} [Deep τ] [o : OpenT P t (Sl τ)] (hu : P.underlying t = some (.slice e)) {v : Value} {d : DataW H} {ps : List MemPlace} (hv : Value.okWide P w .any b t v) (h : DataW.Trod enc P w 0 (fun _ => true) true t v d ps) (hw : ∀ n ∈ d.weights P t, n ≤ reachBytes) :
    ∃ x : Sl τ, v = x.sv.val ∧ Deep.good (hp w) x := by
  obtain ⟨fuel, h⟩ := h
  obtain ⟨x, h1, h2⟩ := o.h h hw
  refine ⟨x, ?_, h2⟩
  have hc : v.cells = #[v] := by
    unfold Value.okWide at hv
    rw [hu] at hv
    unfold Cell.okWide at hv
    rw [hu] at hv
    cases v <;> simp_all [Cell.ok, Value.cells]
  rw [hc] at h1
  have : [x.sv.val] = [v] := h1
  simpa using this.symm
theorem arg_agg {H : Type} {enc : TypeId × Value → H} {w : World} {b : Nat} {t : TypeId} {τ : Type} [Deep τ] [o : OpenT P t τ] (hu : ∃ d, P.underlying t = some d ∧ isRowD d = true) {v : Value} {d : DataW H} {ps : List MemPlace} (hv : Value.okWide P w .any b t v) (h : DataW.Trod enc P w 0 (fun _ => true) true t v d ps) (hw : ∀ n ∈ d.weights P t, n ≤ reachBytes) :
    ∃ x : τ, v = .agg (Deep.cells x) ∧ Deep.good (hp w) x := by
  obtain ⟨fuel, h⟩ := h
  obtain ⟨x, h1, h2⟩ := o.h h hw
  refine ⟨x, ?_, h2⟩
  obtain ⟨dd, hu1, hu2⟩ := hu
  have hc : ∃ cs, v = .agg cs := by
    unfold Value.okWide at hv
    rw [hu1] at hv
    cases dd <;> simp [isRowD] at hu2
    · obtain ⟨cs, rfl, _⟩ := hv; exact ⟨cs, rfl⟩
    · obtain ⟨cs, rfl, _⟩ := hv; exact ⟨cs, rfl⟩
  obtain ⟨cs, rfl⟩ := hc
  have : (Deep.cells x).toList = cs.toList := h1
  rw [Array.toList_inj.1 this]

/-- What a law's contract is told of one argument. -/
structure Arg (H : Type) (enc : TypeId × Value → H) (P : Program) (W : World) (b : Nat) (t : TypeId) (v : Value) : Prop where
  ok : Value.okWide P W .any b t v
  trod : ∃ d ps, DataW.Trod enc P W 0 (fun _ => true) true t v d ps ∧ ∀ n ∈ d.weights P t, n ≤ reachBytes
theorem Arg.sl {H : Type} {enc : TypeId × Value → H} {W : World} {b : Nat} {t e : TypeId} {v : Value} (h : Arg H enc P W b t v) (hu : P.underlying t = some (.slice e)) (τ : Type) [Deep τ] [o : OpenT P t (Sl τ)] : ∃ x : Sl τ, v = x.sv.val ∧ Deep.good (hp W) x := by
  obtain ⟨d, ps, h1, h2⟩ := h.trod
  exact arg_sl hu h.ok h1 h2
theorem Arg.agg {H : Type} {enc : TypeId × Value → H} {W : World} {b : Nat} {t : TypeId} {v : Value} (h : Arg H enc P W b t v) {n : Nat} (hu : RowT P t n) (τ : Type) [Deep τ] [o : OpenT P t τ] : ∃ x : τ, v = .agg (Deep.cells x) ∧ Deep.good (hp W) x := by
  obtain ⟨d, ps, h1, h2⟩ := h.trod
  exact arg_agg hu.row h.ok h1 h2

theorem trodAll_get {H : Type} {enc : TypeId × Value → H} {W : World} {sp : Nat → Bool} {hd : Bool} : ∀ {ts : List TypeId} {vs : List Value} {ds : List (DataW H)} {ps : List MemPlace}, DataW.TrodAll enc P W 0 sp hd ts vs ds ps → ∀ (j : Nat) (t : TypeId) (v : Value), ts[j]? = some t → vs[j]? = some v →
    ∃ d p, ds[j]? = some d ∧ DataW.Trod enc P W 0 sp hd t v d p
  | [], _, _, _, h, j, _, _, ht, _ => by simp at ht
  | t0 :: ts, vs, ds, ps, h, j, t, v, ht, hv => by
    obtain ⟨v0, vs1, d0, ds1, a, b, rfl, rfl, rfl, h1, h2⟩ := trodAll_cons h
    cases j with
    | zero =>
      obtain rfl : t0 = t := by simpa using ht
      obtain rfl : v0 = v := by simpa using hv
      exact ⟨d0, a, rfl, h1⟩
    | succ j => exact trodAll_get h2 j t v (by simpa using ht) (by simpa using hv)

/-- The row's lifted proof out of the call's, where arguments reach memory. -/
theorem lifted_true2 {H : Type} {enc : TypeId × Value → H} {C : Checked} {os : Os} {f : FuncId} {fn : Func} {s : ChangeSpec} {conds : List PathCond} {apart fresh handsOn : Bool} {tb : TypeId}
    (own : ownKnob C.prog.godebug = none) (started : os.Started) (noInit : C.prog.inits.idxOf? f = none) (hfunc : C.prog.funcs[f]? = some fn)
    (wit : ∃ (w : World) (tape : Tape) (i : Input), w.os = os ∧ (w.forCall tape i).Shaped C.prog ∧ i.vars = [] ∧ Input.okWide C.prog (w.forCall tape i) .any w.heap.size f i ∧
      s.pre6 enc C.prog fn conds apart (w.forCall tape i).memory i.args ∧ ({} : Assume).holds C.prog (lone (Frame.enter C.prog f i.args .normal) [] (w.forCall tape i)))
    (hl : laidOutB C.prog = true) (hp : fn.params.toList.all (fun t => C.prog.readableRec t && decide (t < C.prog.types.size)) = true) (hr : fn.resultTypes = #[tb]) (hb : C.prog.underlying tb = some .bool)
    (hv : s.vars = []) (hfn : ∀ ds : List (DataW H), ds.length = fn.params.size → s.fn H ds = { results := [.lit (.bool true)], args := ds })
    (contract : ∀ (W : World) (base : Nat) (vs : List Value), vs.length = fn.params.size → (∀ (j : Nat) t v, fn.params[j]? = some t → vs[j]? = some v → Arg H enc C.prog W base t v) →
      Calls C.prog f vs.toArray W fun e W' => e = .returned (.bool true) ∧ Mem W [] W') :
    ReturnsInHanded {} C os f .any (s.pre6 enc C.prog fn conds apart) (s.post enc C.prog fn apart fresh handsOn false) := by
  refine returnsInHanded_of_change_shaped own started noInit hfunc wit ?_
  intro W base args ds gs before hval hW _ hwt _ _
  have hlen : args.toList.length = fn.params.size := by
    obtain ⟨p, q, hA, _⟩ := hW
    rw [(trodAll_length hA).1]; simp
  have h := contract W base args.toList hlen (fun j t v h1 h2 => ⟨hval j t v h1 (by simpa using h2), by
    obtain ⟨p, q, hA, _⟩ := hW
    obtain ⟨d, pp, hd, ht⟩ := trodAll_get hA j t v (by simpa using h1) h2
    refine ⟨d, pp, ht, fun n hn => ?_⟩
    have hh := List.all_eq_true.1 hwt n (mem_weightsEach (i := j) (t := t) (d := d) (by rw [List.getElem?_append_left (by have := (Array.getElem?_eq_some_iff.1 h1).1; simpa using this)]; simpa using h1)
      (by rw [List.getElem?_append_left (List.getElem?_eq_some_iff.1 hd).1]; exact hd) hn)
    simpa using hh⟩)
  rw [Array.toArray_toList] at h
  exact h.mono fun e W' hh => ⟨_, hh.1, post_true hl hp hr hb hv hfn hW hh.2.below⟩
end Go.Eng
