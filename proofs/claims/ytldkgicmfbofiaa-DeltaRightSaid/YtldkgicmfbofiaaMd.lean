/- What a law's row asks once its call is known to yield true and to leave the memory that was there as it was. -/
import Derived.Test.YtldkgicmfbofiaaMa
import Derived.Test.YtldkgicmfbofiaaMk
import Derived.ProofKit
import Derived.Test.YtldkgicmfbofiaaMb
import Derived.Deep.Slices
import Derived.HandedShaped
import Derived.Test.YtldkgicmfbofiaaMc
import Derived.Lib.BytesEntry

set_option linter.unusedSimpArgs false
set_option linter.unusedVariables false
namespace Go.Eng
open Go.ChangeShapes Go.WideShapes Go.ChangeAt Go.RowKit Go.Kb

variable {H : Type} {enc : TypeId × Value → H} {P : Program}

theorem trodAll_stays (hl : laidOutB P = true) {W W' : World} {sp : Nat → Bool} : ∀ {ts : List TypeId} {vs : List Value} {ds : List (DataW H)} {ps : List MemPlace},
    (∀ t ∈ ts, P.readableRec t = true ∧ t < P.types.size) → DataW.TrodAll enc P W 0 (fun _ => true) true ts vs ds ps → (∀ p ∈ ps, W.sameAt W' p) → (∀ p ∈ ps, sp p.block = true) →
    DataW.TrodAll enc P W' 0 sp true ts vs ds ps
  | [], _, _, _, _, h, _, _ => by
    obtain ⟨rfl, rfl, rfl⟩ := trodAll_nil h
    exact rfl
  | t :: _, _, _, _, ht, h, hs, hp => by
    obtain ⟨v, vs1, d, ds1, a, b, rfl, rfl, rfl, h1, h2⟩ := trodAll_cons h
    exact ⟨a, b, WideElems.Trod_stays hl (ht t (by simp)).1 (ht t (by simp)).2 h1 (fun p h => hs p (by simp [h])) (fun p h => hp p (by simp [h])),
      trodAll_stays hl (fun t h => ht t (by simp [h])) h2 (fun p h => hs p (by simp [h])) (fun p h => hp p (by simp [h])), rfl⟩

theorem trodAll_length {W : World} {b : Nat} {sp : Nat → Bool} {hd : Bool} : ∀ {ts : List TypeId} {vs : List Value} {ds : List (DataW H)} {ps : List MemPlace},
    DataW.TrodAll enc P W b sp hd ts vs ds ps → vs.length = ts.length ∧ ds.length = ts.length
  | [], _, _, _, h => by
    obtain ⟨rfl, rfl, rfl⟩ := trodAll_nil h
    exact ⟨rfl, rfl⟩
  | _ :: _, _, _, _, h => by
    obtain ⟨v, vs1, d, ds1, a, b, rfl, rfl, rfl, h1, h2⟩ := trodAll_cons h
    have := trodAll_length h2
    simp [this.1, this.2]

theorem post_true (hl : laidOutB P = true) {f : Func} {s : ChangeSpec} {apart fresh handsOn : Bool} {W W' : World} {args : Array Value} {ds gs : List (DataW H)} {before : List MemPlace} {tb : TypeId}
    (hp : f.params.toList.all (fun t => P.readableRec t && decide (t < P.types.size)) = true) (hr : f.resultTypes = #[tb]) (hb : P.underlying tb = some .bool) (hv : s.vars = [])
    (hfn : ∀ ds : List (DataW H), ds.length = f.params.size → s.fn H ds = { results := [.lit (.bool true)], args := ds })
    (hW : DataW.Whole enc P f.params.toList s.vars apart W args.toList ds gs before) (hbel : Below W.heap.size W W') :
    s.post enc P f apart fresh handsOn false W args (.bool true) W' := by
  have hlt := hW.lt
  have hW0 := hW
  obtain ⟨p, q, hA, hV, rfl, hfz, hnd⟩ := hW
  rw [hv] at hV
  obtain ⟨rfl, rfl⟩ := trodVars_none hV
  have hlen := trodAll_length hA
  have e1 : s.fn H (ds ++ []) = { results := [.lit (.bool true)], args := ds } := by rw [List.append_nil]; exact hfn ds (by rw [hlen.2]; simp)
  have hpp : ∀ t ∈ f.params.toList, P.readableRec t = true ∧ t < P.types.size := fun t ht => by
    simpa using List.all_eq_true.1 hp t ht
  refine ⟨ds, [], p ++ [], [], p, [], hW0, ?_, ?_, ?_, hbel.frame _, fun h => by cases h⟩
  · rw [e1, hr]; exact trodAll_mk1 (shut_bool hb true)
  · rw [e1]
    exact trodAll_stays hl hpp hA (fun x hx => hbel.same (hlt x (by simp [hx]))) (fun x hx => by simpa using hlt x (by simp [hx]))
  · rw [e1, hv]; exact rfl

theorem lifted_true {C : Checked} {os : Os} {f : FuncId} {fn : Func} {s : ChangeSpec} {conds : List PathCond} {apart fresh handsOn : Bool} {tb : TypeId}
    (own : ownKnob C.prog.godebug = none) (started : os.Started) (noInit : C.prog.inits.idxOf? f = none) (hfunc : C.prog.funcs[f]? = some fn)
    (wit : ∃ (w : World) (tape : Tape) (i : Input), w.os = os ∧ (w.forCall tape i).Shaped C.prog ∧ i.vars = [] ∧ Input.okWide C.prog (w.forCall tape i) .any w.heap.size f i ∧
      s.pre6 enc C.prog fn conds apart (w.forCall tape i).memory i.args ∧ ({} : Assume).holds C.prog (lone (Frame.enter C.prog f i.args .normal) [] (w.forCall tape i)))
    (hl : laidOutB C.prog = true) (hp : fn.params.toList.all (fun t => C.prog.readableRec t && decide (t < C.prog.types.size)) = true) (hr : fn.resultTypes = #[tb]) (hb : C.prog.underlying tb = some .bool)
    (hv : s.vars = []) (hfn : ∀ ds : List (DataW H), ds.length = fn.params.size → s.fn H ds = { results := [.lit (.bool true)], args := ds })
    (contract : ∀ (W : World) (base : Nat) (vs : List Value), vs.length = fn.params.size → (∀ (j : Nat) t v, fn.params[j]? = some t → vs[j]? = some v → Value.okWide C.prog W .any base t v) →
      Calls C.prog f vs.toArray W fun e W' => e = .returned (.bool true) ∧ Mem W [] W') :
    ReturnsInHanded {} C os f .any (s.pre6 enc C.prog fn conds apart) (s.post enc C.prog fn apart fresh handsOn false) := by
  refine returnsInHanded_of_change own started noInit hfunc wit ?_
  intro W base args ds gs before hval hW _ _
  have hlen : args.toList.length = fn.params.size := by
    obtain ⟨p, q, hA, _⟩ := hW
    rw [(trodAll_length hA).1]; simp
  have h := contract W base args.toList hlen (fun j t v h1 h2 => hval j t v h1 (by simpa using h2))
  rw [Array.toArray_toList] at h
  exact h.mono fun e W' hh => ⟨_, hh.1, post_true hl hp hr hb hv hfn hW hh.2.below⟩

/-! Arguments of a type, by its outer form. -/
theorem u8_of_ok {w : World} {b : Nat} {e : TypeId} {v : Value} (he : P.underlying e = some (.int .u8)) (h : Cell.okWide P w .any b e v) : ∃ n : Nat, n < 256 ∧ v = .int .u8 n := by
  cases v with
  | int k n =>
    simp only [Cell.okWide, he, Cell.ok, IntKind.has] at h
    obtain ⟨rfl, h1, h2⟩ := h
    have a1 : (0 : Int) ≤ n := h1
    have a2 : n ≤ (255 : Int) := h2
    exact ⟨n.toNat, by omega, by rw [Int.toNat_of_nonneg a1]⟩
  | _ => simp [Cell.okWide, he, Cell.ok] at h
theorem i64_of_ok {w : World} {b : Nat} {e : TypeId} {v : Value} (he : P.underlying e = some (.int .i64)) (h : Cell.okWide P w .any b e v) : ∃ n : Int, v = .int .i64 n ∧ -2 ^ 63 ≤ n ∧ n < 2 ^ 63 := by
  cases v with
  | int k n =>
    simp only [Cell.okWide, he, Cell.ok, IntKind.has] at h
    obtain ⟨rfl, h1, h2⟩ := h
    have a1 : (-2 ^ 63 : Int) ≤ n := h1
    have a2 : n ≤ (2 ^ 63 - 1 : Int) := h2
    exact ⟨n, rfl, a1, by omega⟩
  | _ => simp [Cell.okWide, he, Cell.ok] at h
theorem int_of_okWide {w : World} {b : Nat} {t : TypeId} {v : Value} (he : P.underlying t = some (.int .i64)) (h : Value.okWide P w .any b t v) : ∃ n : Int, v = .int .i64 n ∧ -2 ^ 63 ≤ n ∧ n < 2 ^ 63 := by
  unfold Value.okWide at h
  rw [he] at h
  exact i64_of_ok he h
theorem u8_of_okWide {w : World} {b : Nat} {t : TypeId} {v : Value} (he : P.underlying t = some (.int .u8)) (h : Value.okWide P w .any b t v) : ∃ n : Nat, n < 256 ∧ v = .int .u8 n := by
  unfold Value.okWide at h
  rw [he] at h
  exact u8_of_ok he h

theorem bytes_key {cs : Array Value} {o : Nat} (h : ∀ i, i < 16 → ∃ n : Nat, n < 256 ∧ cs[o + i]? = some (.int .u8 n)) :
    ∃ k : Key, ∀ i, i < 16 → cs[o + i]? = some (.int .u8 (kbyte k i)) := by
  refine ⟨kof fun i => match cs[o + i]? with | some (.int _ n) => n.toNat | _ => 0, fun i hi => ?_⟩
  obtain ⟨n, hn, e⟩ := h i hi
  rw [kbyte_kof _ i hi, e]
  simp [Nat.mod_eq_of_lt hn]

theorem key_of_okWide {w : World} {b : Nat} {t e : TypeId} {v : Value} (hu : P.underlying t = some (.array 16 e)) (hc : P.cellTypes P.depth t = some (List.replicate 16 e)) (he : P.underlying e = some (.int .u8))
    (hs : P.cellsOf t = 16) (h : Value.okWide P w .any b t v) : ∃ k : Key, v = .agg (kcells k) := by
  unfold Value.okWide at h
  rw [hu] at h
  obtain ⟨cs, rfl, hsz, ts, hts, _, hcell⟩ := h
  rw [hs] at hsz
  obtain rfl : List.replicate 16 e = ts := by rw [hc] at hts; exact Option.some.inj hts
  obtain ⟨k, hk⟩ := bytes_key (cs := cs) (o := 0) fun i hi => by
    obtain ⟨u, hu1, hu2⟩ := hcell i (cs[i]'(by omega)) (by simp [hsz, hi])
    obtain rfl : e = u := by
      rw [List.length_replicate, Nat.mod_eq_of_lt hi, List.getElem?_replicate, if_pos hi] at hu1; exact Option.some.inj hu1
    obtain ⟨n, hn, e1⟩ := u8_of_ok he hu2
    exact ⟨n, hn, by rw [Nat.zero_add, Array.getElem?_eq_getElem (by omega), e1]⟩
  exact ⟨k, by rw [eq_kcells hsz fun i hi => by simpa using hk i hi]⟩

theorem pfx_of_okWide {w : World} {b : Nat} {t e i : TypeId} {fs : Array Field} {v : Value} (hu : P.underlying t = some (.struct fs)) (hc : P.cellTypes P.depth t = some (i :: i :: List.replicate 16 e)) (he : P.underlying e = some (.int .u8))
    (hi : P.underlying i = some (.int .i64)) (hs : P.cellsOf t = 18) (h : Value.okWide P w .any b t v) : ∃ p : Pfx, v = .agg (pcells p) := by
  unfold Value.okWide at h
  rw [hu] at h
  obtain ⟨cs, rfl, hsz, ts, hts, _, hcell⟩ := h
  rw [hs] at hsz
  obtain rfl : i :: i :: List.replicate 16 e = ts := by rw [hc] at hts; exact Option.some.inj hts
  obtain ⟨k, hk⟩ := bytes_key (cs := cs) (o := 2) fun j hj => by
    obtain ⟨u, hu1, hu2⟩ := hcell (2 + j) (cs[2 + j]'(by omega)) (by simp)
    obtain rfl : e = u := by
      have e2 : (2 + j) % (i :: i :: List.replicate 16 e).length = j + 2 := by
        simp only [List.length_cons, List.length_replicate]
        omega
      rw [e2] at hu1
      rw [List.getElem?_cons_succ, List.getElem?_cons_succ, List.getElem?_replicate, if_pos hj] at hu1; exact Option.some.inj hu1
    obtain ⟨n, hn, e1⟩ := u8_of_ok he hu2
    exact ⟨n, hn, by rw [Array.getElem?_eq_getElem (by omega), e1]⟩
  obtain ⟨u0, a0, b0⟩ := hcell 0 (cs[0]'(by omega)) (by simp [hsz])
  obtain ⟨u1, a1, b1⟩ := hcell 1 (cs[1]'(by omega)) (by simp [hsz])
  obtain rfl : i = u0 := by simpa using a0
  obtain rfl : i = u1 := by simpa using a1
  obtain ⟨n0, c0, -⟩ := i64_of_ok hi b0
  obtain ⟨n1, c1, -⟩ := i64_of_ok hi b1
  refine ⟨⟨n0, n1, k⟩, ?_⟩
  congr 1
  refine Array.ext_getElem? fun j => ?_
  match j with
  | 0 => rw [pcells_0, Array.getElem?_eq_getElem (by omega), c0]
  | 1 => rw [pcells_1, Array.getElem?_eq_getElem (by omega), c1]
  | j + 2 =>
    rw [Nat.add_comm j 2, pcells_k]
    rcases Nat.lt_or_ge j 16 with hj | hj
    · rw [hk j hj, kcells_get _ _ hj]
    · rw [kcells_none _ _ hj]; simp; omega

theorem list1 {α : Type} {l : List α} (h : l.length = 1) : ∃ a, l = [a] := match l, h with | [a], _ => ⟨a, rfl⟩
theorem list2 {α : Type} {l : List α} (h : l.length = 2) : ∃ a b, l = [a, b] := match l, h with | [a, b], _ => ⟨a, b, rfl⟩
theorem list3 {α : Type} {l : List α} (h : l.length = 3) : ∃ a b c, l = [a, b, c] := match l, h with | [a, b, c], _ => ⟨a, b, c, rfl⟩
theorem list4 {α : Type} {l : List α} (h : l.length = 4) : ∃ a b c d, l = [a, b, c, d] := match l, h with | [a, b, c, d], _ => ⟨a, b, c, d, rfl⟩
theorem list5 {α : Type} {l : List α} (h : l.length = 5) : ∃ a b c d e, l = [a, b, c, d, e] := match l, h with | [a, b, c, d, e], _ => ⟨a, b, c, d, e, rfl⟩

theorem list6 {α : Type} {l : List α} (h : l.length = 6) : ∃ a b c d e f, l = [a, b, c, d, e, f] := match l, h with | [a, b, c, d, e, f], _ => ⟨a, b, c, d, e, f, rfl⟩
theorem list0 {α : Type} {l : List α} (h : l.length = 0) : l = [] := List.length_eq_zero_iff.1 h
theorem u8_of_okWide2 {w : World} {b : Nat} {t : TypeId} {v : Value} (he : P.underlying t = some (.int .u8)) (h : Value.okWide P w .any b t v) : ∃ n : UInt8, v = .int .u8 n.toNat := by
  obtain ⟨n, hn, rfl⟩ := u8_of_okWide he h
  exact ⟨UInt8.ofNat n, by simp; omega⟩
theorem u16_of_okWide2 {w : World} {b : Nat} {t : TypeId} {v : Value} (he : P.underlying t = some (.int .u16)) (h : Value.okWide P w .any b t v) : ∃ n : UInt16, v = .int .u16 n.toNat := by
  unfold Value.okWide at h
  rw [he] at h
  cases v with
  | int k n =>
    simp only [Cell.okWide, he, Cell.ok, IntKind.has] at h
    obtain ⟨rfl, h1, h2⟩ := h
    have a1 : (0 : Int) ≤ n := h1
    have a2 : n ≤ (65535 : Int) := h2
    exact ⟨UInt16.ofNat n.toNat, by simp; omega⟩
  | _ => simp [Cell.okWide, he, Cell.ok] at h
theorem u32_of_okWide2 {w : World} {b : Nat} {t : TypeId} {v : Value} (he : P.underlying t = some (.int .u32)) (h : Value.okWide P w .any b t v) : ∃ n : UInt32, v = .int .u32 n.toNat := by
  unfold Value.okWide at h
  rw [he] at h
  cases v with
  | int k n =>
    simp only [Cell.okWide, he, Cell.ok, IntKind.has] at h
    obtain ⟨rfl, h1, h2⟩ := h
    have a1 : (0 : Int) ≤ n := h1
    have a2 : n ≤ (4294967295 : Int) := h2
    exact ⟨UInt32.ofNat n.toNat, by simp; omega⟩
  | _ => simp [Cell.okWide, he, Cell.ok] at h
end Go.Eng

/- Arguments opened: what is read of them as data lies in memory as a value of a Lean type. -/
namespace Go.Eng
open Go.ChangeShapes Go.WideShapes Go.ChangeAt Go.RowKit Go.Kb

variable {P : Program}

theorem list_of {α : Type} {p : Nat → α → Prop} : ∀ {n : Nat}, (∀ i, i < n → ∃ x, p i x) → ∃ l : List α, l.length = n ∧ ∀ i x, l[i]? = some x → p i x
  | 0, _ => ⟨[], rfl, fun i x h => by simp at h⟩
  | n + 1, h => by
    obtain ⟨l, hl, hp⟩ := list_of (n := n) fun i hi => h i (by omega)
    obtain ⟨x, hx⟩ := h n (by omega)
    refine ⟨l ++ [x], by simp [hl], fun i y hy => ?_⟩
    by_cases hi : i < n
    · rw [List.getElem?_append_left (by omega)] at hy; exact hp i y hy
    · have : i = n := by
        have := (List.getElem?_eq_some_iff.1 hy).1
        rw [List.length_append, hl] at this; simp at this; omega
      subst this
      rw [List.getElem?_append_right (by omega), hl] at hy
      have : x = y := by simpa using hy
      exact this ▸ hx

class OpenT (P : Program) (t : TypeId) (τ : Type) [Deep τ] : Prop where
  sz : P.cellsOf t = Deep.c τ
  h : ∀ {H : Type} {enc : TypeId × Value → H} {w : World} {fuel : Nat} {cs : List Value} {d : DataW H} {ps : List MemPlace}, DataW.trod enc P w 0 (fun _ => true) true fuel t cs = some (d, ps) → (∀ n ∈ d.weights P t, n ≤ reachBytes) →
    ∃ x : τ, (Deep.cells x).toList = cs ∧ Deep.good (hp w) x

theorem cells_get {w : World} {b : Nat} {a : Addr} {n : Nat} {cs : List Value} (h : w.cells? b a n = some cs) : cs.length = n ∧ ∀ j, j < n → w.cell? (a.add j) = cs[j]? := by
  unfold World.cells? at h
  split at h
  · have hl := mapM_some_length h
    refine ⟨by simpa using hl, fun j hj => ?_⟩
    exact mapM_some_get h j j (by simp [hj])
  · cases h

theorem mem_weightsAll {H : Type} {e : TypeId} {n : Nat} : ∀ {l : List (DataW H)} {d : DataW H}, d ∈ l → n ∈ d.weights P e → n ∈ DataW.weightsAll P e l
  | x :: l, d, hd, hn => by
    rw [DataW.weightsAll]
    rcases List.mem_cons.1 hd with rfl | hd
    · exact List.mem_append_left _ hn
    · exact List.mem_append_right _ (mem_weightsAll hd hn)
theorem mem_weightsEach {H : Type} {n : Nat} : ∀ {ts : List TypeId} {l : List (DataW H)} {i : Nat} {t : TypeId} {d : DataW H}, ts[i]? = some t → l[i]? = some d → n ∈ d.weights P t → n ∈ DataW.weightsEach P ts l
  | [], _, i, _, _, h, _, _ => by simp at h
  | _ :: _, [], i, _, _, _, h, _ => by simp at h
  | t0 :: ts, d0 :: l, 0, t, d, ht, hd, hn => by
    obtain rfl : t0 = t := by simpa using ht
    obtain rfl : d0 = d := by simpa using hd
    rw [DataW.weightsEach]; exact List.mem_append_left _ hn
  | t0 :: ts, d0 :: l, i + 1, t, d, ht, hd, hn => by
    rw [DataW.weightsEach]; exact List.mem_append_right _ (mem_weightsEach (i := i) (by simpa using ht) (by simpa using hd) hn)

theorem reach_le : reachBytes ≤ 140737488355328 := by decide

theorem open_sl {t e : TypeId} {τ : Type} [Deep τ] (hu : P.underlying t = some (.slice e)) (hb' : Nat.ble 1 (P.bytesOf e) = true) (hc : 1 ≤ Deep.c τ) (hs : P.cellsOf t = 1) [o : OpenT P e τ] : OpenT P t (Sl τ) := ⟨hs, fun {H enc w fuel cs d ps} h hw => by
  have hb : 1 ≤ P.bytesOf e := Nat.le_of_ble_eq_true hb'
  rcases Go.Deep.open_slice hu h with ⟨rfl, _⟩ | ⟨a, len, cap, m, n, D, Pl, rfl, _, hl, _, hm, hx, hel⟩
  · exact ⟨⟨Sv.none, []⟩, rfl, good_none⟩
  · simp only [if_true] at hm
    subst hm
    have hd : d = .slice ((List.range len).map D) ((List.range (m - len)).map fun j => D (len + j)) := congrArg Prod.fst hx
    subst hd
    simp only [DataW.weights, hu, List.length_map, List.length_range] at hw
    have hcap : m ≤ 140737488355328 := by
      have h1 := hw _ (List.mem_cons_self ..)
      have h2 : (len + (m - len)) * 1 ≤ (len + (m - len)) * P.bytesOf e := Nat.mul_le_mul_left _ hb
      have := reach_le; omega
    have hcells : ∀ i, i < m → ∃ cs', (cs'.length = Deep.c τ ∧ ∀ j, j < Deep.c τ → w.cell? ((a.add (i * Deep.c τ)).add j) = cs'[j]?) ∧ DataW.trod enc P w 0 (fun _ => true) true n e cs' = some (D i, Pl i) := fun i hi => by
      obtain ⟨cs', h1, h2⟩ := hel i hi
      rw [o.sz] at h1
      exact ⟨cs', cells_get h1, h2⟩
    have hspot : 0 < m → a.spot = none := fun hm => by
      obtain ⟨cs', ⟨h1, h2⟩, _⟩ := hcells 0 hm
      have h3 := h2 0 (by omega)
      have e0 : (a.add (0 * Deep.c τ)).add 0 = a := by simp [Addr.add]
      rw [e0, List.getElem?_eq_getElem (by omega)] at h3
      unfold World.cell? at h3
      split at h3
      · split at h3
        · cases h3
        · rename_i hs; simpa using hs
      · cases h3
    obtain ⟨l, hll, hlp⟩ := list_of (p := fun i (x : τ) => (∀ j, j < Deep.c τ → w.cell? ((a.add (i * Deep.c τ)).add j) = (Deep.cells x)[j]?) ∧ Deep.good (hp w) x) (n := len) fun i hi => by
      obtain ⟨cs', ⟨h1, h2⟩, h3⟩ := hcells i (by omega)
      obtain ⟨x, hx1, hx2⟩ := o.h h3 (fun k hk => hw k (List.mem_cons_of_mem _ (List.mem_append_left _ (mem_weightsAll (List.mem_map.2 ⟨i, List.mem_range.2 hi, rfl⟩) hk))))
      refine ⟨x, fun j hj => ?_, hx2⟩
      rw [h2 j hj, ← hx1]; simp
    refine ⟨⟨⟨false, a.block, a.off, len, m, a.spot⟩, l⟩, rfl, ⟨⟨(fun h => by cases h), hl, by simp only; omega, hspot⟩, by simp [hll], fun i x hi j hj => ?_⟩, fun x hx => ?_⟩
    · have hil : i < len := by rw [← hll]; exact (List.getElem?_eq_some_iff.1 hi).1
      have h1 := (hlp i x hi).1 j hj
      have hs := hspot (by omega)
      have ea : (a.add (i * Deep.c τ)).add j = ⟨a.block, a.off + i * Deep.c τ + j, none⟩ := by
        obtain ⟨ab, ao, asp⟩ := a
        simp only at hs
        subst hs
        rw [Addr.add_none, Addr.add_none]
      rw [ea, cell_hp] at h1
      exact h1
    · obtain ⟨i, hi⟩ := List.getElem?_of_mem hx
      exact (hlp i x hi).2⟩

theorem open_field {H : Type} {enc : TypeId × Value → H} {w : World} {fuel : Nat} {t : TypeId} {cs : List Value} {d : DataW H} {ps : List MemPlace} {fs : Array Field} (hu : P.underlying t = some (.struct fs)) (h : DataW.trod enc P w 0 (fun _ => true) true fuel t cs = some (d, ps)) (hw : ∀ n ∈ d.weights P t, n ≤ reachBytes)
    {i tf off : Nat} (hf0 : (fs[i]?).map (fun f => (f.type, f.offset)) = some (tf, off)) (τ : Type) [Deep τ] [o : OpenT P tf τ] : cs.length = P.cellsOf t ∧ ∃ x : τ, (Deep.cells x).toList = (cs.drop off).take (Deep.c τ) ∧ Deep.good (hp w) x := by
  obtain ⟨f, hf, e⟩ := Option.map_eq_some_iff.1 hf0
  obtain ⟨rfl, rfl⟩ := Prod.mk.inj e
  obtain ⟨xs, n, _, hx, hl, hlen, hg⟩ := DataW.trod_struct hu h
  have h1 := hg i f hf
  have hi : i < xs.length := by rw [hlen]; exact (Array.getElem?_eq_some_iff.1 hf).1
  rw [List.getElem?_eq_getElem hi, o.sz] at h1
  have hd : d = .agg (xs.map (·.1)) := congrArg Prod.fst hx
  subst hd
  obtain ⟨x, hx1, hx2⟩ := o.h (d := xs[i].1) (ps := xs[i].2) h1 (fun k hk => hw k (by
    simp only [DataW.weights, hu]
    exact mem_weightsEach (i := i) (t := f.type) (d := xs[i].1) (by
      have : fs.toList[i]? = some f := by simpa using hf
      rw [List.getElem?_map, this]; rfl) (by simp [hi]) hk))
  exact ⟨hl, x, hx1, hx2⟩
theorem open_elem {H : Type} {enc : TypeId × Value → H} {w : World} {fuel : Nat} {t e : TypeId} {m : Nat} {cs : List Value} {d : DataW H} {ps : List MemPlace} (hu : P.underlying t = some (.array m e)) (h : DataW.trod enc P w 0 (fun _ => true) true fuel t cs = some (d, ps)) (hw : ∀ n ∈ d.weights P t, n ≤ reachBytes)
    (τ : Type) [Deep τ] [o : OpenT P e τ] : cs.length = P.cellsOf t ∧ ∀ i, i < m → ∃ x : τ, (Deep.cells x).toList = (cs.drop (i * Deep.c τ)).take (Deep.c τ) ∧ Deep.good (hp w) x := by
  cases fuel with
  | zero => simp [DataW.trod] at h
  | succ n =>
    unfold DataW.trod at h
    rw [hu] at h
    split at h <;> simp_all
    rename_i m' e' heq
    obtain ⟨hl, xs, hp', hd⟩ := h
    obtain ⟨rfl, rfl⟩ := heq
    intro i hi
    have hlen := mapM_some_length hp'
    have hi' : i < xs.length := by simpa [hlen] using hi
    have h1 := mapM_some_get hp' i i (by simp [hi])
    rw [List.getElem?_eq_getElem hi', o.sz] at h1
    obtain ⟨rfl, -⟩ := hd
    exact o.h (d := xs[i].1) (ps := xs[i].2) h1 (fun k hk => hw k (by
      simp only [DataW.weights, hu]
      exact mem_weightsAll (List.mem_map_of_mem (List.getElem_mem hi')) hk))

theorem cut2 {α : Type} {cs : List α} {a b : Nat} (h : cs.length = a + b) : (cs.drop 0).take a ++ (cs.drop a).take b = cs := by
  rw [List.drop_zero, List.take_of_length_le (l := cs.drop a) (by rw [List.length_drop]; omega), List.take_append_drop]
theorem cut3 {α : Type} {cs : List α} {a b c : Nat} (h : cs.length = a + b + c) : (cs.drop 0).take a ++ (cs.drop a).take b ++ (cs.drop (a + b)).take c = cs := by
  have h1 := cut2 (cs := cs) (a := a + b) (b := c) (by omega)
  conv => rhs; rw [← h1]
  congr 1
  rw [List.drop_zero, List.take_add]
theorem cut4 {α : Type} {cs : List α} {a b c d : Nat} (h : cs.length = a + b + c + d) : (cs.drop 0).take a ++ (cs.drop a).take b ++ (cs.drop (a + b)).take c ++ (cs.drop (a + b + c)).take d = cs := by
  have h1 := cut2 (cs := cs) (a := a + b + c) (b := d) (by omega)
  conv => rhs; rw [← h1]
  congr 1
  rw [List.drop_zero, List.take_add, List.take_add]

/-! Numbers. -/
def ienc (n : Int) : Array Value := #[.int .i64 n]
instance : Enc ienc 1 := ⟨fun _ => rfl, fun _ => by simp [ienc, Value.oneCell']⟩
instance : Deep Int := Deep.flat ienc 1
instance : FlatT Int ienc 1 := ⟨rfl, fun _ => rfl⟩
instance : Plain Int := ⟨fun _ => rfl⟩
instance (n : Int) : CellAt (ienc n) 0 (.int .i64 n) := ⟨rfl⟩
def henc (n : UInt16) : Array Value := #[.int .u16 n.toNat]
instance : Enc henc 1 := ⟨fun _ => rfl, fun _ => by simp [henc, Value.oneCell']⟩
instance : Deep UInt16 := Deep.flat henc 1
instance : FlatT UInt16 henc 1 := ⟨rfl, fun _ => rfl⟩
instance : Plain UInt16 := ⟨fun _ => rfl⟩
instance (n : UInt16) : CellAt (henc n) 0 (.int .u16 n.toNat) := ⟨rfl⟩
def tenc (b : Bool) : Array Value := #[.bool b]
instance : Enc tenc 1 := ⟨fun _ => rfl, fun _ => by simp [tenc, Value.oneCell']⟩
instance : Deep Bool := Deep.flat tenc 1
instance : FlatT Bool tenc 1 := ⟨rfl, fun _ => rfl⟩
instance : Plain Bool := ⟨fun _ => rfl⟩
instance (b : Bool) : CellAt (tenc b) 0 (.bool b) := ⟨rfl⟩

theorem open_i64 {t : TypeId} (hu : P.underlying t = some (.int .i64)) (hs : P.cellsOf t = 1) : OpenT P t Int := ⟨hs, fun h _ => by
  obtain ⟨n, rfl, _, _⟩ := DataW.trod_int hu h
  exact ⟨n, rfl, trivial⟩⟩
theorem open_u8 {t : TypeId} (hu : P.underlying t = some (.int .u8)) (hs : P.cellsOf t = 1) : OpenT P t UInt8 := ⟨hs, fun h _ => by
  obtain ⟨n, rfl, _, hw⟩ := DataW.trod_int hu h
  simp only [Lit.wf, Bool.and_eq_true, decide_eq_true_eq] at hw
  have h1 : (0 : Int) ≤ n := hw.1
  have h2 : n ≤ (255 : Int) := hw.2
  refine ⟨UInt8.ofNat n.toNat, ?_, trivial⟩
  have : ((UInt8.ofNat n.toNat).toNat : Int) = n := by simp; omega
  show (benc (UInt8.ofNat n.toNat)).toList = _
  simp only [benc, this]⟩
theorem open_u16 {t : TypeId} (hu : P.underlying t = some (.int .u16)) (hs : P.cellsOf t = 1) : OpenT P t UInt16 := ⟨hs, fun h _ => by
  obtain ⟨n, rfl, _, hw⟩ := DataW.trod_int hu h
  simp only [Lit.wf, Bool.and_eq_true, decide_eq_true_eq] at hw
  have h1 : (0 : Int) ≤ n := hw.1
  have h2 : n ≤ (65535 : Int) := hw.2
  refine ⟨UInt16.ofNat n.toNat, ?_, trivial⟩
  have : ((UInt16.ofNat n.toNat).toNat : Int) = n := by simp; omega
  show (henc (UInt16.ofNat n.toNat)).toList = _
  simp only [henc, this]⟩
theorem open_bool {t : TypeId} (hu : P.underlying t = some .bool) (hs : P.cellsOf t = 1) : OpenT P t Bool := ⟨hs, fun h _ => by
  obtain ⟨n, rfl, _⟩ := DataW.trod_bool hu h
  exact ⟨n, rfl, trivial⟩⟩

/-! Arguments. -/
theorem arg_sl {H : Type} {enc : TypeId × Value → H} {w : World} {b : Nat} {t e : TypeId} {τ : Type} [Deep τ] [o : OpenT P t (Sl τ)] (hu : P.underlying t = some (.slice e)) {v : Value} {d : DataW H} {ps : List MemPlace} (hv : Value.okWide P w .any b t v) (h : DataW.Trod enc P w 0 (fun _ => true) true t v d ps) (hw : ∀ n ∈ d.weights P t, n ≤ reachBytes) :
    ∃ x : Sl τ, v = x.sv.val ∧ Deep.good (hp w) x := by
  obtain ⟨fuel, h⟩ := h
  obtain ⟨x, h1, h2⟩ := o.h h hw
  refine ⟨x, ?_, h2⟩
  have hc : v.cells = #[v] := by
    unfold Value.okWide at hv
    rw [hu] at hv
    unfold Cell.okWide at hv
    rw [hu] at hv
    cases v <;> simp_all [Cell.ok, Value.cells]
  rw [hc] at h1
  have : [x.sv.val] = [v] := h1
  simpa using this.symm
theorem arg_agg {H : Type} {enc : TypeId × Value → H} {w : World} {b : Nat} {t : TypeId} {τ : Type} [Deep τ] [o : OpenT P t τ] (hu : ∃ d, P.underlying t = some d ∧ isRowD d = true) {v : Value} {d : DataW H} {ps : List MemPlace} (hv : Value.okWide P w .any b t v) (h : DataW.Trod enc P w 0 (fun _ => true) true t v d ps) (hw : ∀ n ∈ d.weights P t, n ≤ reachBytes) :
    ∃ x : τ, v = .agg (Deep.cells x) ∧ Deep.good (hp w) x := by
  obtain ⟨fuel, h⟩ := h
  obtain ⟨x, h1, h2⟩ := o.h h hw
  refine ⟨x, ?_, h2⟩
  obtain ⟨dd, hu1, hu2⟩ := hu
  have hc : ∃ cs, v = .agg cs := by
    unfold Value.okWide at hv
    rw [hu1] at hv
    cases dd <;> simp [isRowD] at hu2
    · obtain ⟨cs, rfl, _⟩ := hv; exact ⟨cs, rfl⟩
    · obtain ⟨cs, rfl, _⟩ := hv; exact ⟨cs, rfl⟩
  obtain ⟨cs, rfl⟩ := hc
  have : (Deep.cells x).toList = cs.toList := h1
  rw [Array.toList_inj.1 this]

structure Arg (H : Type) (enc : TypeId × Value → H) (P : Program) (W : World) (b : Nat) (t : TypeId) (v : Value) : Prop where
  ok : Value.okWide P W .any b t v
  trod : ∃ d ps, DataW.Trod enc P W 0 (fun _ => true) true t v d ps ∧ ∀ n ∈ d.weights P t, n ≤ reachBytes
theorem Arg.sl {H : Type} {enc : TypeId × Value → H} {W : World} {b : Nat} {t e : TypeId} {v : Value} (h : Arg H enc P W b t v) (hu : P.underlying t = some (.slice e)) (τ : Type) [Deep τ] [o : OpenT P t (Sl τ)] : ∃ x : Sl τ, v = x.sv.val ∧ Deep.good (hp W) x := by
  obtain ⟨d, ps, h1, h2⟩ := h.trod
  exact arg_sl hu h.ok h1 h2
theorem Arg.agg {H : Type} {enc : TypeId × Value → H} {W : World} {b : Nat} {t : TypeId} {v : Value} (h : Arg H enc P W b t v) {n : Nat} (hu : RowT P t n) (τ : Type) [Deep τ] [o : OpenT P t τ] : ∃ x : τ, v = .agg (Deep.cells x) ∧ Deep.good (hp W) x := by
  obtain ⟨d, ps, h1, h2⟩ := h.trod
  exact arg_agg hu.row h.ok h1 h2

theorem trodAll_get {H : Type} {enc : TypeId × Value → H} {W : World} {sp : Nat → Bool} {hd : Bool} : ∀ {ts : List TypeId} {vs : List Value} {ds : List (DataW H)} {ps : List MemPlace}, DataW.TrodAll enc P W 0 sp hd ts vs ds ps → ∀ (j : Nat) (t : TypeId) (v : Value), ts[j]? = some t → vs[j]? = some v →
    ∃ d p, ds[j]? = some d ∧ DataW.Trod enc P W 0 sp hd t v d p
  | [], _, _, _, h, j, _, _, ht, _ => by simp at ht
  | t0 :: ts, vs, ds, ps, h, j, t, v, ht, hv => by
    obtain ⟨v0, vs1, d0, ds1, a, b, rfl, rfl, rfl, h1, h2⟩ := trodAll_cons h
    cases j with
    | zero =>
      obtain rfl : t0 = t := by simpa using ht
      obtain rfl : v0 = v := by simpa using hv
      exact ⟨d0, a, rfl, h1⟩
    | succ j => exact trodAll_get h2 j t v (by simpa using ht) (by simpa using hv)

theorem lifted_true2 {H : Type} {enc : TypeId × Value → H} {C : Checked} {os : Os} {f : FuncId} {fn : Func} {s : ChangeSpec} {conds : List PathCond} {apart fresh handsOn : Bool} {tb : TypeId}
    (own : ownKnob C.prog.godebug = none) (started : os.Started) (noInit : C.prog.inits.idxOf? f = none) (hfunc : C.prog.funcs[f]? = some fn)
    (wit : ∃ (w : World) (tape : Tape) (i : Input), w.os = os ∧ (w.forCall tape i).Shaped C.prog ∧ i.vars = [] ∧ Input.okWide C.prog (w.forCall tape i) .any w.heap.size f i ∧
      s.pre6 enc C.prog fn conds apart (w.forCall tape i).memory i.args ∧ ({} : Assume).holds C.prog (lone (Frame.enter C.prog f i.args .normal) [] (w.forCall tape i)))
    (hl : laidOutB C.prog = true) (hp : fn.params.toList.all (fun t => C.prog.readableRec t && decide (t < C.prog.types.size)) = true) (hr : fn.resultTypes = #[tb]) (hb : C.prog.underlying tb = some .bool)
    (hv : s.vars = []) (hfn : ∀ ds : List (DataW H), ds.length = fn.params.size → s.fn H ds = { results := [.lit (.bool true)], args := ds })
    (contract : ∀ (W : World) (base : Nat) (vs : List Value), vs.length = fn.params.size → (∀ (j : Nat) t v, fn.params[j]? = some t → vs[j]? = some v → Arg H enc C.prog W base t v) →
      Calls C.prog f vs.toArray W fun e W' => e = .returned (.bool true) ∧ Mem W [] W') :
    ReturnsInHanded {} C os f .any (s.pre6 enc C.prog fn conds apart) (s.post enc C.prog fn apart fresh handsOn false) := by
  refine returnsInHanded_of_change_shaped own started noInit hfunc wit ?_
  intro W base args ds gs before hval hW _ hwt _ _
  have hlen : args.toList.length = fn.params.size := by
    obtain ⟨p, q, hA, _⟩ := hW
    rw [(trodAll_length hA).1]; simp
  have h := contract W base args.toList hlen (fun j t v h1 h2 => ⟨hval j t v h1 (by simpa using h2), by
    obtain ⟨p, q, hA, _⟩ := hW
    obtain ⟨d, pp, hd, ht⟩ := trodAll_get hA j t v (by simpa using h1) h2
    refine ⟨d, pp, ht, fun n hn => ?_⟩
    have hh := List.all_eq_true.1 hwt n (mem_weightsEach (i := j) (t := t) (d := d) (by rw [List.getElem?_append_left (by have := (Array.getElem?_eq_some_iff.1 h1).1; simpa using this)]; simpa using h1)
      (by rw [List.getElem?_append_left (List.getElem?_eq_some_iff.1 hd).1]; exact hd) hn)
    simpa using hh⟩)
  rw [Array.toArray_toList] at h
  exact h.mono fun e W' hh => ⟨_, hh.1, post_true hl hp hr hb hv hfn hW hh.2.below⟩
end Go.Eng

/- Arguments that are arrays, or hold them: opened. -/
namespace Go.Eng
open Go.RowKit Go.Kb
instance (priority := high) deepIntO : Deep Int := Deep.flat ienc 1
structure Arr (τ : Type) (m : Nat) where
  l : List τ
  h : l.length = m
instance Deep.arr {τ : Type} {m : Nat} [d : Deep τ] : Deep (Arr τ m) where
  c := m * Deep.c τ
  cells a := (flatR (Deep.cells (τ := τ)) a.l).toArray
  size a := by rw [List.size_toArray, flatR_length (c := Deep.c τ), a.h]
  one a := by rw [Array.all_eq_true_iff_forall_mem]; intro v hv; exact flatR_one (enc := Deep.cells (τ := τ)) (c := Deep.c τ) a.l v (by simpa using hv)
  good h a := ∀ x ∈ a.l, d.good h x
  ent a := .all (a.l.map d.ent)
  good_of h _ hs := fun x hx => d.good_of h x (Ent.all_sat hs _ (List.mem_map_of_mem hx))
  mono w w' _ hg hb := fun x hx => d.mono w w' x (hg x hx) hb
theorem open_arr {P : Program} {t e : TypeId} {τ : Type} {m : Nat} [Deep τ] [o : OpenT P e τ] (hu : P.underlying t = some (.array m e)) (hs : P.cellsOf t = m * Deep.c τ) (hc : 0 < Deep.c τ) : OpenT P t (Arr τ m) := ⟨hs, fun {H enc w fuel cs d ps} h hw => by
  obtain ⟨hl, he⟩ := open_elem hu h hw τ
  obtain ⟨l, hll, hlp⟩ := list_of (p := fun i (x : τ) => (Deep.cells x).toList = (cs.drop (i * Deep.c τ)).take (Deep.c τ) ∧ Deep.good (hp w) x) he
  refine ⟨⟨l, hll⟩, ?_, fun x hx => ?_⟩
  · show (flatR (Deep.cells (τ := τ)) l) = cs
    refine List.ext_getElem? fun j => ?_
    rcases Nat.lt_or_ge j cs.length with hj | hj
    · have hk : j / Deep.c τ < l.length := by
        rw [hll]; exact Nat.div_lt_of_lt_mul (by rw [hl, hs, Nat.mul_comm] at hj; exact hj)
      have hx : l[j / Deep.c τ]? = some l[j / Deep.c τ] := by simp [hk]
      have h1 := flatR_get (enc := Deep.cells (τ := τ)) (c := Deep.c τ) l (j / Deep.c τ) _ hx (j % Deep.c τ) (Nat.mod_lt _ hc)
      rw [show j / Deep.c τ * Deep.c τ + j % Deep.c τ = j by rw [Nat.mul_comm]; exact Nat.div_add_mod j _] at h1
      have h2 := congrArg (·[j % Deep.c τ]?) (hlp _ _ hx).1
      simp only [Array.getElem?_toList] at h2
      rw [List.getElem?_take_of_lt (Nat.mod_lt _ hc), List.getElem?_drop, show j / Deep.c τ * Deep.c τ + j % Deep.c τ = j by rw [Nat.mul_comm]; exact Nat.div_add_mod j _] at h2
      rw [h1, h2]
    · rw [List.getElem?_eq_none hj, List.getElem?_eq_none (by rw [flatR_length (c := Deep.c τ), hll, ← hs, ← hl]; exact hj)]
  · obtain ⟨i, hi, rfl⟩ := List.getElem_of_mem hx
    exact (hlp i _ (by simp [hi])).2⟩
instance : Deep Slt := Deep.flat slcells 2
instance : FlatT Slt slcells 2 := ⟨rfl, fun _ => rfl⟩
instance : Plain Slt := ⟨fun _ => rfl⟩
theorem ncells_flat (n : Nd) : (ncells n).toList = flatR slcells n.slots ++ flatR ienc n.nexts := by
  refine List.ext_getElem? fun j => ?_
  have l1 : (flatR slcells n.slots).length = 32 := by rw [flatR_length (c := 2), n.hs]
  have l2 : (flatR ienc n.nexts).length = 16 := by rw [flatR_length (c := 1), n.hn]
  rw [Array.getElem?_toList]
  rcases Nat.lt_or_ge j 32 with hj | hj
  · have hb : j / 2 < 16 := by omega
    have hx : n.slots[j / 2]? = some (n.sl (j / 2)) := by rw [Nd.sl]; exact get_getD (by rw [n.hs]; omega)
    have h1 := flatR_get (enc := slcells) (c := 2) n.slots (j / 2) _ hx (j % 2) (by omega)
    rw [List.getElem?_append_left (by omega), show j = j / 2 * 2 + j % 2 by omega, h1]
    exact (ncells_sl n hb).h (j % 2) (by omega)
  · rcases Nat.lt_or_ge j 48 with hk | hk
    · have hx : n.nexts[j - 32]? = some (n.nx (j - 32)) := by rw [Nd.nx]; exact get_getD (by rw [n.hn]; omega)
      have h1 := flatR_get (enc := ienc) (c := 1) n.nexts (j - 32) _ hx 0 (by decide)
      rw [Nat.mul_one, Nat.add_zero] at h1
      rw [List.getElem?_append_right (by omega), l1, h1, show j = 32 + (j - 32) by omega, ncells_nx n (by omega)]
      simp [ienc]
    · rw [ncells_none n j hk, List.getElem?_eq_none (by rw [List.length_append]; omega)]
end Go.Eng

/- Keys and prefixes as cells of this program. -/
namespace Go.Proofs.Ytldkgicmfbofiaa
open Go.Eng Go.Kb

instance (k : Key) : SizeIs (kcells k) 16 := ⟨kcells_size k, by
 rw [Array.all_eq_true_iff_forall_mem]; intro v hv
 simp only [kcells, List.mem_toArray, List.mem_map] at hv
 obtain ⟨i, _, rfl⟩ := hv; rfl⟩
instance (p : Pfx) : SizeIs (pcells p) 18 := ⟨pcells_size p, by
 have h : (kcells p.key).all (·.oneCell') = true := (inferInstance : SizeIs (kcells p.key) 16).one
 rw [pcells, Array.all_append, h]; simp [Value.oneCell']⟩
instance (p : Pfx) : CellAt (pcells p) 0 (.int .i64 p.bits) := ⟨pcells_0 p⟩
instance (p : Pfx) : CellAt (pcells p) 1 (.int .i64 p.len) := ⟨pcells_1 p⟩
instance (p : Pfx) : PartAt (pcells p) 2 16 (kcells p.key) := ⟨kcells_size _, fun j _ => pcells_k p j⟩

theorem part5 (d : Nat) : PartT Try.prog (d + 1) 5 false [0] := ⟨⟨_, Try.underlying5, rfl⟩, by kernel_rfl, fun _ => rfl, eqF_int Try.underlying5⟩
theorem part3 (d : Nat) : PartT Try.prog (d + 1) 3 false [0] := ⟨⟨_, Try.underlying3, rfl⟩, by kernel_rfl, fun _ => rfl, eqF_int Try.underlying3⟩
theorem partK (d : Nat) : PartT Try.prog (d + 1 + 1) 24 true (List.replicate 16 [0]).flatten := ⟨⟨_, Try.underlying24, rfl⟩, by kernel_rfl, (fun h => by cases h), eqF_arr Try.underlying24 (part5 d)⟩
theorem stoodX : Try.prog.stoodInHeld 26 = false := by kernel_rfl
theorem partX (d : Nat) : PartT Try.prog (d + 1 + 1 + 1) 26 true ([0] ++ ([0] ++ ((List.replicate 16 [0]).flatten ++ []))) := ⟨⟨_, Try.underlying26, rfl⟩, by kernel_rfl, (fun h => by cases h),
 eqF_struct Try.underlying26 stoodX ⟨by decide, rfl, _, _, _, rfl, part3 _, by decide, rfl, _, _, _, rfl, part3 _, by decide, rfl, _, _, _, rfl, partK _, rfl⟩⟩
theorem guardK : Try.prog.eqGuardType Try.prog.depth 24 = false := by kernel_rfl
theorem guardX : Try.prog.eqGuardType Try.prog.depth 26 = false := by kernel_rfl
instance (a b : Key) : EqV Try.prog 24 (.agg (kcells a)) (.agg (kcells b)) (decide (a = b)) :=
 (partK 9998).eq.val rfl guardK (kcells_size a) (kcells_size b) (fun i k hk => by
  have hi : i < 16 := (List.getElem?_eq_some_iff.1 hk).1
  have h0 : k = 0 := by
   have : k ∈ (List.replicate 16 [0]).flatten := List.mem_of_getElem? hk
   simpa using this
  subst h0
  exact ⟨_, _, kcells_get a i hi, kcells_get b i hi, rfl⟩) (by rw [decide_eq_true_iff]; exact ⟨kcells_inj, fun h => by rw [h]⟩)
instance (a b : Pfx) : EqV Try.prog 26 (.agg (pcells a)) (.agg (pcells b)) (decide (a = b)) :=
 (partX 9997).eq.val rfl guardX (pcells_size a) (pcells_size b) (fun i k hk => by
  have h0 : k = 0 := by
   have : k ∈ ([0] ++ ([0] ++ ((List.replicate 16 [0]).flatten ++ []))) := List.mem_of_getElem? hk
   simpa using this
  subst h0
  have hi : i < 18 := (List.getElem?_eq_some_iff.1 hk).1
  match i, hi with
  | 0, _ => exact ⟨_, _, pcells_0 a, pcells_0 b, rfl⟩
  | 1, _ => exact ⟨_, _, pcells_1 a, pcells_1 b, rfl⟩
  | j + 2, hi => rw [Nat.add_comm j 2]; exact ⟨_, _, (pcells_k a j).trans (kcells_get _ j (by omega)), (pcells_k b j).trans (kcells_get _ j (by omega)), rfl⟩) (by rw [decide_eq_true_iff]; exact ⟨pcells_inj, fun h => by rw [h]⟩)
theorem kcells_zero : kcells 0#128 = (List.replicate 16 (Value.int .u8 0)).toArray := by
 apply Array.ext'
 simp only [kcells]
 refine List.eq_replicate_iff.2 ⟨by simp, fun v hv => ?_⟩
 simp only [List.mem_map] at hv
 obtain ⟨i, _, rfl⟩ := hv
 simp [kbyte]
instance (n m : Int) (k : Key) : BuildT Try.prog 26 [(0, .int .i64 n), (1, .int .i64 m), (2, .agg (kcells k))] (.agg (pcells ⟨n, m, k⟩)) := ⟨fun w => by kernel_rfl⟩
instance : ZeroT Try.prog 24 (.agg (kcells 0#128)) := ⟨by rw [kcells_zero]; kernel_rfl⟩
instance : ZeroT Try.prog 26 (.agg (pcells ⟨0, 0, 0#128⟩)) := ⟨by unfold pcells; rw [kcells_zero]; kernel_rfl⟩

end Go.Proofs.Ytldkgicmfbofiaa

/- The functions of package key, walked. -/
namespace Go.Proofs.Ytldkgicmfbofiaa
open Go.Eng Go.Kb

theorem tab8 (s : ByteArray) (hs : (List.range 256).all (fun j => (s[j]?).map (·.toNat) == some (len8 j)) = true) (x : Nat) (hx : x < 256) : (s[(x : Int).toNat]?).map (·.toNat) = some (len8 x) := by
 have := List.all_eq_true.1 hs x (List.mem_range.2 hx)
 simpa using this
theorem fits_no {p : Pfx} {k : Key} {n : Nat} (h : ((decide ((n : Int) < p.len) && !decide (kbit p.key n = kbit k n)) || (decide (p.bits ≤ (n : Int)) && !decide (kbit k n = 0))) = false) :
  ((n : Int) < p.len → p.key.getMsbD n = k.getMsbD n) ∧ (p.bits ≤ (n : Int) → k.getMsbD n = false) := by
 simp only [Bool.or_eq_false_iff, Bool.and_eq_false_imp, decide_eq_true_eq, Bool.not_eq_false', kbit_same] at h
 refine ⟨h.1, fun hb => ?_⟩
 have := h.2 hb
 rw [kbit_nat] at this
 cases e : k.getMsbD n with
 | false => rfl
 | true => rw [e] at this; simp at this
theorem fits_yes {p : Pfx} {k : Key} {n : Nat} (h : ((decide ((n : Int) < p.len) && !decide (kbit p.key n = kbit k n)) || (decide (p.bits ≤ (n : Int)) && !decide (kbit k n = 0))) = true) :
  ¬ (((n : Int) < p.len → p.key.getMsbD n = k.getMsbD n) ∧ (p.bits ≤ (n : Int) → k.getMsbD n = false)) := by
 rintro ⟨h1, h2⟩
 simp only [Bool.or_eq_true, Bool.and_eq_true, decide_eq_true_eq, Bool.not_eq_true', decide_eq_false_iff_not, kbit_same] at h
 rcases h with ⟨h3, h4⟩ | ⟨h3, h4⟩
 ·
  exact h4 (h1 h3)
 ·
  refine h4 ?_
  rw [kbit_nat, h2 h3]; rfl

set_option maxRecDepth 20000 in
theorem kind_c (n : Int) : PureFn Try.prog 58 [.int .i64 n] (.bool (decide (n = 32) || decide (n = 128))) := ⟨fun w => by
 refine calls_of (args := [_]) Try.func58 rfl Try.ntmps58 rfl ?_
 change Cw _ _ _ _ _ [(0, .int .i64 n)] []
 refine cw_seq ?_
 refine cw_region ?_
 refine sq_r (ry_assign rfl) ?_
 refine sq_nil ?_
 refine ex_then ?_
 refine cw_seq ?_
 refine cw_region ?_
 refine sq_r (ry_move rfl) ?_
 refine sq_r (ry_int rfl rfl rfl) ?_
 refine sq_r (ry_move rfl) ?_
 refine sq_gf rfl rfl rfl (fun hg => (ry_move rfl).yl) ?_
 refine sq_gf rfl rfl rfl (fun hg => (ry_int (ev_c hg rfl) rfl rfl).yl) ?_
 refine sq_r (ry_or rfl rfl rfl) ?_
 refine sq_r (ry_assign rfl) ?_
 refine sq_nil ?_
 refine ex_then ?_
 refine cw_ret ?_
 refine ex_ret (.inl rfl) (res_tmp rfl rfl) (fun w hw => ?_)
 exact ⟨rfl, hw.sub (List.nil_sublist _)⟩⟩
instance kind_i (n : Int) : PureFn Try.prog 58 [.int .i64 n] (.bool (decide (n = 32) || decide (n = 128))) := kind_c n


set_option maxRecDepth 20000 in
theorem rbit_c (k : Key) (n : Int) : PureFn Try.prog 74 [.agg (kcells k), .int .i64 n] (.int .i64 (kbit k n)) := ⟨fun w => by
 refine calls_of (args := [_, _]) Try.func74 rfl Try.ntmps74 rfl ?_
 change Cw _ _ _ _ _ [(0, .agg (kcells k)), (1, .int .i64 n)] []
 refine cw_seq ?_
 refine cw_region ?_
 refine sq_boxA rfl fun b2 => ?_
 refine sq_r (ry_assign rfl) ?_
 refine sq_nil ?_
 refine ex_then ?_
 refine cw_seq ?_
 refine cw_seq ?_
 refine cw_region ?_
 refine sq_r (ry_move rfl) ?_
 refine sq_r (ry_int rfl rfl rfl) ?_
 refine sq_r (ry_move rfl) ?_
 refine sq_gf rfl rfl rfl (fun hg => (ry_move rfl).yl) ?_
 refine sq_gf rfl rfl rfl (fun hg => (ry_int (ev_c hg rfl) rfl rfl).yl) ?_
 refine sq_r (ry_or rfl rfl rfl) ?_
 refine sq_nil ?_
 refine ex_then ?_
 refine cw_cond rfl (fun h0 => ?_) (fun h0 => ?_)
 ·
  simp at h0
  refine cw_seq ?_
  refine cw_region ?_
  refine sq_r (ry_assign rfl) ?_
  refine sq_nil ?_
  refine ex_then ?_
  refine cw_ret ?_
  refine ex_pass_ret ?_
  refine ex_ret (.inl rfl) (res_tmp rfl rfl) (fun w hw => ?_)
  exact ⟨by rw [kbit_out k n (by omega)], hw.sub (List.nil_sublist _)⟩
 ·
  simp at h0
  have hb := kbyte_lt k (n / 8).toNat
  refine cw_skip ?_
  refine ex_then ?_
  refine cw_seq ?_
  refine cw_region ?_
  refine sq_r (ry_move rfl) ?_
  refine sq_r (ry_quo rfl rfl (by omega) (by omega)) ?_
  refine sq_r (ry_idxA1 rfl rfl (by omega) (by omega)) ?_
  refine sq_r (ry_cell rfl (kcells_get _ _ (by omega))) ?_
  refine sq_r (ry_convn rfl (Nat.lt_of_lt_of_le (kbyte_lt _ _) (by decide))) ?_
  refine sq_r (ry_assign rfl) ?_
  refine sq_nil ?_
  refine ex_then ?_
  refine cw_seq ?_
  refine cw_seq ?_
  refine cw_region ?_
  refine sq_r (ry_move rfl) ?_
  refine sq_r (ry_rem rfl rfl (by omega) (by omega)) ?_
  refine sq_r (ry_assign rfl) ?_
  refine sq_nil ?_
  refine ex_then ?_
  refine cw_block ?_
  refine cw_loop (X := Int) (fun i => [(6, .int .i64 i), (5, .int .i64 ((kbyte k (n / 8).toNat / 2 ^ (i - n % 8).toNat : Nat) : Int))]) (fun i => [blk b2 (kcells k) 24]) (fun i => n % 8 ≤ i ∧ i ≤ 7) (fun i => (7 - i).toNat) (n % 8) (by omega) (Sub.cons rfl (Sub.cons (look_eq rfl (by rw [Int.sub_self]; simp)) (Sub.nil _))) (fun w hw => hw) ?_
  rintro i hI
  have hd : kbyte k (n / 8).toNat / 2 ^ (i - n % 8).toNat < 256 := Nat.lt_of_le_of_lt (Nat.div_le_self _ _) hb
  have hd0 : (0 : Int) ≤ ((kbyte k (n / 8).toNat / 2 ^ (i - n % 8).toNat : Nat) : Int) := Int.natCast_nonneg _
  refine cw_seq ?_
  refine cw_seq ?_
  refine cw_region ?_
  refine sq_r (ry_move rfl) ?_
  refine sq_r (ry_int rfl rfl rfl) ?_
  refine sq_nil ?_
  refine ex_then ?_
  refine cw_cond rfl (fun h1 => ?_) (fun h1 => ?_)
  ·
   have h1 := of_decide_eq_true h1
   refine cw_skip ?_
   refine ex_then ?_
   refine cw_seq ?_
   refine cw_block ?_
   refine cw_region ?_
   refine sq_r (ry_move rfl) ?_
   refine sq_r (ry_quo rfl rfl (by omega) (by omega)) ?_
   refine sq_r (ry_assign rfl) ?_
   refine sq_nil ?_
   refine ex_block ?_
   refine ex_then ?_
   refine cw_region ?_
   refine sq_r (ry_move rfl) ?_
   refine sq_r (ry_add rfl rfl (by omega)) ?_
   refine sq_r (ry_assign rfl) ?_
   refine sq_nil ?_
   exact ex_again (i + 1) (by omega) (by omega) (Sub.cons rfl (Sub.cons (look_eq rfl (by rw [show (i + 1 - n % 8).toNat = (i - n % 8).toNat + 1 by omega, Nat.pow_succ, ← Nat.div_div_eq_div_mul]; rfl)) (Sub.nil _))) (fun w hw => hw)
  ·
   have h1 := of_decide_eq_false h1
   refine cw_exit ?_
   refine ex_pass_exit ?_
   refine ex_pass_exit ?_
   refine ex_block_hit ?_
   refine ex_then ?_
   refine cw_seq ?_
   refine cw_region ?_
   refine sq_r (ry_move rfl) ?_
   refine sq_r (ry_rem rfl rfl (by omega) (by omega)) ?_
   refine sq_r (ry_assign rfl) ?_
   refine sq_nil ?_
   refine ex_then ?_
   refine cw_ret ?_
   refine ex_ret (.inl rfl) (res_tmp rfl rfl) (fun w hw => ?_)
   exact ⟨by rw [kbit_eq k n (by omega) (by omega), show i = 7 by omega]; rfl, hw.sub (List.nil_sublist _)⟩⟩
instance rbit_i (k : Key) (n : Int) : PureFn Try.prog 74 [.agg (kcells k), .int .i64 n] (.int .i64 (kbit k n)) := rbit_c k n


theorem cut_whole (k : Key) (h : Nat) (hh : h ≤ 16) : over (kcells 0#128) 0 ((kcells k).extract 0 h) = kcells (kcut k ((8 * h : Nat) : Int)) := by
 refine eq_kcells (by simp [over, kcells_size]; omega) fun i hi => ?_
 have hl : ((kcells k).extract 0 h).size = h := by simp [kcells_size]; omega
 rw [kbyte_kcut k (8 * h) i hi]
 simp only [over, hl, List.take_zero, List.nil_append, Nat.zero_add, List.getElem?_toArray]
 by_cases h1 : i < h
 ·
  rw [List.getElem?_append_left (by simp [kcells_size]; omega), if_pos (by omega)]
  have := kcells_get k i hi
  simpa [h1] using this
 ·
  rw [List.getElem?_append_right (by simp [kcells_size]; omega), if_neg (by omega)]
  have h2 : (kcells 0#128)[i]? = some (.int .u8 ((0 : Nat) : Int)) := by rw [kcells_get _ i hi]; simp [kbyte]
  simp only [Array.length_toList, hl, List.getElem?_drop, show h + (i - h) = i by omega]
  rw [Array.getElem?_toList, h2]
  by_cases h3 : 8 * i ≤ 8 * h
  ·
   rw [if_pos h3, show 8 - (8 * h - 8 * i) = 8 by omega, Nat.div_eq_of_lt (kbyte_lt k i), Nat.zero_mul]
  ·
   rw [if_neg h3]
theorem andNot_byte (b r : Nat) (hb : b < 256) (hr : r ≤ 8) : intOp .andNot .u8 b ((255 / 2 ^ r : Nat) : Int) = some (.int .u8 ((b / 2 ^ (8 - r) * 2 ^ (8 - r) : Nat) : Int)) := by
 have hm : 255 / 2 ^ r < 256 := Nat.lt_of_le_of_lt (Nat.div_le_self _ _) (by omega)
 rw [intOp_andNot hb hm]
 have key : b &&& (256 - 1 - 255 / 2 ^ r) = b / 2 ^ (8 - r) * 2 ^ (8 - r) := by
  have e1 : 255 / 2 ^ r = 2 ^ (8 - r) - 1 := by
   match r, hr with
   | 0, _ | 1, _ | 2, _ | 3, _ | 4, _ | 5, _ | 6, _ | 7, _ | 8, _ => rfl
   | n + 9, h => omega
  rw [e1]
  apply Nat.eq_of_testBit_eq
  intro j
  have e2 : 256 - 1 - (2 ^ (8 - r) - 1) = 2 ^ 8 - (2 ^ (8 - r) - 1 + 1) := by omega
  rw [Nat.testBit_and, e2, Nat.testBit_two_pow_sub_succ (by have : 2 ^ (8 - r) ≤ 2 ^ 8 := Nat.pow_le_pow_right (by decide) (by omega); have := Nat.two_pow_pos (8 - r); omega), Nat.testBit_two_pow_sub_one, Nat.testBit_mul_two_pow, Nat.testBit_div_two_pow]
  by_cases hj : 8 - r ≤ j
  ·
   simp only [hj, show ¬ j < 8 - r by omega, decide_true, decide_false, Bool.not_false, Bool.and_true, Bool.true_and, show j - (8 - r) + (8 - r) = j by omega]
   by_cases h8 : j < 8
   ·
    simp [h8]
   ·
    have : b.testBit j = false := Nat.testBit_lt_two_pow (Nat.lt_of_lt_of_le hb (by have := Nat.pow_le_pow_right (n := 2) (by decide) (show 8 ≤ j by omega); simpa using this))
    simp [this]
  ·
   simp [hj, show j < 8 - r by omega]
 show some (Value.int .u8 ((b &&& (256 - 1 - 255 / 2 ^ r) : Nat) : Int)) = _
 rw [key]
theorem cut_part (k : Key) (n : Int) (h0 : 1 ≤ n) (h1 : n < 128) (h2 : 0 < n % 8) : (kcells (kcut k ((8 * (n / 8).toNat : Nat) : Int))).setIfInBounds (n / 8).toNat (.int .u8 ((kbyte k (n / 8).toNat / 2 ^ (8 - (n % 8).toNat) * 2 ^ (8 - (n % 8).toNat) : Nat) : Int)) = kcells (kcut k n) := by
 have hb := kbyte_lt k (n / 8).toNat
 rw [kcells_set _ _ _ (by omega) (Nat.lt_of_le_of_lt (Nat.div_mul_le_self _ _) hb)]
 congr 1
 refine key_ext_byte fun i hi => ?_
 rw [kbyte_kset _ _ _ i hi (Nat.lt_of_le_of_lt (Nat.div_mul_le_self _ _) hb), kbyte_kcut k _ i hi]
 have e : kcut k n = kcut k ((n.toNat : Nat) : Int) := by rw [Int.toNat_of_nonneg (by omega)]
 rw [e, kbyte_kcut k n.toNat i hi]
 by_cases hj : i = (n / 8).toNat
 ·
  rw [if_pos hj, if_neg (by omega), if_pos (by omega), hj, show n.toNat - 8 * (n / 8).toNat = (n % 8).toNat by omega]
 ·
  rw [if_neg hj]
  by_cases hlt : i < (n / 8).toNat
  ·
   rw [if_pos (by omega), if_pos (by omega)]
  ·
   rw [if_neg (by omega), if_neg (by omega), if_neg (by omega), if_neg (by omega)]
theorem cut_even (k : Key) (n : Int) (h0 : 1 ≤ n) (h2 : ¬ 0 < n % 8) : kcut k ((8 * (n / 8).toNat : Nat) : Int) = kcut k n := by
 congr 1; omega

set_option maxRecDepth 20000 in
theorem cut_c (k : Key) (n : Int) : PureFn Try.prog 45 [.agg (kcells k), .int .i64 n] (.agg (kcells (kcut k n))) := ⟨fun w => by
 refine calls_of (args := [_, _]) Try.func45 rfl Try.ntmps45 rfl ?_
 change Cw _ _ _ _ _ [(0, .agg (kcells k)), (1, .int .i64 n)] []
 refine cw_seq ?_
 refine cw_region ?_
 refine sq_boxA rfl fun b2 => ?_
 refine sq_allocA fun b4 => ?_
 refine sq_nil ?_
 refine ex_then ?_
 refine cw_seq ?_
 refine cw_seq ?_
 refine cw_region ?_
 refine sq_r (ry_move rfl) ?_
 refine sq_r (ry_int rfl rfl rfl) ?_
 refine sq_nil ?_
 refine ex_then ?_
 refine cw_cond rfl (fun h0 => ?_) (fun h0 => ?_)
 ·
  have h0 := of_decide_eq_true h0
  refine cw_seq ?_
  refine cw_region ?_
  refine sq_r (ry_whole rfl) ?_
  refine sq_storeW rfl rfl ?_
  refine sq_nil ?_
  refine ex_then ?_
  refine cw_ret ?_
  refine ex_pass_ret ?_
  refine ex_ret (.inl rfl) (res_cell rfl rfl) (fun w hw => ?_)
  exact ⟨by rw [kcut_all k n (by omega)], hw.sub (List.nil_sublist _)⟩
 ·
  have h0 := of_decide_eq_false h0
  refine cw_skip ?_
  refine ex_then ?_
  refine cw_seq ?_
  refine cw_region ?_
  refine sq_allocA fun b5 => ?_
  refine sq_nil ?_
  refine ex_then ?_
  refine cw_seq ?_
  refine cw_seq ?_
  refine cw_region ?_
  refine sq_r (ry_move rfl) ?_
  refine sq_r (ry_int rfl rfl rfl) ?_
  refine sq_nil ?_
  refine ex_then ?_
  refine cw_cond rfl (fun h1 => ?_) (fun h1 => ?_)
  ·
   have h1 := of_decide_eq_true h1
   refine cw_seq ?_
   refine cw_region ?_
   refine sq_r (ry_whole rfl) ?_
   refine sq_storeW rfl rfl ?_
   refine sq_nil ?_
   refine ex_then ?_
   refine cw_ret ?_
   refine ex_pass_ret ?_
   refine ex_ret (.inl rfl) (res_cell rfl rfl) (fun w hw => ?_)
   exact ⟨by rw [kcut_none k n (by omega)], hw.sub (List.nil_sublist _)⟩
  ·
   have h1 := of_decide_eq_false h1
   refine cw_skip ?_
   refine ex_then ?_
   refine cw_seq ?_
   refine cw_region ?_
   refine sq_r (ry_move rfl) ?_
   refine sq_r (ry_quo rfl rfl (by omega) (by omega)) ?_
   refine sq_r (ry_assign rfl) ?_
   refine sq_nil ?_
   refine ex_then ?_
   refine cw_seq ?_
   refine cw_tail 4 [] (by kernel_rfl) (by kernel_rfl) ?_
   simp only [List.take_succ_cons, List.take_zero]
   refine qt_r (ry_move rfl) ?_
   refine qt_r (ry_sliceA_hi rfl rfl (by omega) (by omega)) ?_
   refine qt_r (ry_move rfl) ?_
   refine qt_r (ry_sliceA_hi rfl rfl (by omega) (by omega)) ?_
   refine qt_end ?_
   refine fr_nil ?_
   simp only [List.drop_succ_cons, List.drop_zero]
   refine sq_copy (vs := (kcells k).extract 0 (n / 8).toNat) rfl rfl (by have e : Nat.min (n / 8).toNat (n / 8).toNat = (n / 8).toNat := Nat.min_self _; rw [e, Array.size_extract, kcells_size]; omega) (fun w hw j hj => by rw [Addr.add_none, hw.cell (Has.h (b := b2)), Nat.zero_add]; simp at hj; simp [hj]) (all_ext (SizeIs.one (cs := kcells k)) _ _) (by rw [Array.size_extract, kcells_size, kcells_size]; omega) (cut_whole k _ (by omega)) ?_
   refine sq_nil ?_
   refine ex_then ?_
   refine cw_seq ?_
   refine cw_seq ?_
   refine cw_region ?_
   refine sq_r (ry_move rfl) ?_
   refine sq_r (ry_rem rfl rfl (by omega) (by omega)) ?_
   refine sq_r (ry_assign rfl) ?_
   refine sq_nil ?_
   refine ex_then ?_
   refine cw_seq ?_
   refine cw_region ?_
   refine sq_r (ry_move rfl) ?_
   refine sq_r (ry_int rfl rfl rfl) ?_
   refine sq_nil ?_
   refine ex_then ?_
   refine cw_cond rfl (fun h2 => ?_) (fun h2 => ?_)
   ·
    have h2 := of_decide_eq_true h2
    refine cw_tail 8 [] (by kernel_rfl) (by kernel_rfl) ?_
    simp only [List.take_succ_cons, List.take_zero]
    refine qt_r (ry_move rfl) ?_
    refine qt_r (ry_move rfl) ?_
    refine qt_r (ry_idxA1 rfl rfl (by omega) (by omega)) ?_
    refine qt_r (ry_cell rfl (kcells_get _ _ (by omega))) ?_
    refine qt_r (ry_move rfl) ?_
    refine qt_r (ry_shr (p := 255) rfl rfl (by decide) (by omega)) ?_
    refine qt_r (ry_int rfl rfl (andNot_byte _ _ (kbyte_lt _ _) (by omega))) ?_
    refine qt_r (ry_idxA1 rfl rfl (by omega) (by omega)) ?_
    refine qt_end ?_
    refine fr_nil ?_
    simp only [List.drop_succ_cons, List.drop_zero]
    refine sq_store rfl rfl (by rw [kcells_size]; omega) rfl (cut_part k n (by omega) (by omega) h2) ?_
    refine sq_nil ?_
    refine ex_then ?_
    refine cw_seq ?_
    refine cw_region ?_
    refine sq_r (ry_whole rfl) ?_
    refine sq_storeW rfl rfl ?_
    refine sq_nil ?_
    refine ex_then ?_
    refine cw_ret ?_
    refine ex_ret (.inl rfl) (res_cell rfl rfl) (fun w hw => ?_)
    exact ⟨rfl, hw.sub (List.nil_sublist _)⟩
   ·
    have h2 := of_decide_eq_false h2
    refine cw_skip ?_
    refine ex_then ?_
    refine cw_seq ?_
    refine cw_region ?_
    refine sq_r (ry_whole rfl) ?_
    refine sq_storeW rfl rfl ?_
    refine sq_nil ?_
    refine ex_then ?_
    refine cw_ret ?_
    refine ex_ret (.inl rfl) (res_cell rfl rfl) (fun w hw => ?_)
    exact ⟨by rw [cut_even k n (by omega) h2], hw.sub (List.nil_sublist _)⟩⟩
instance cut_i (k : Key) (n : Int) : PureFn Try.prog 45 [.agg (kcells k), .int .i64 n] (.agg (kcells (kcut k n))) := cut_c k n


theorem cut_step_same (k : Key) (i : Int) (h : kbit k i ≠ 1) : kcut k (i + 1) = kcut k i := key_ext fun n hn => by
 rw [kcut_msb, kcut_msb]
 by_cases e : (n : Int) = i
 ·
  have : k.getMsbD n = false := by
   have h2 : kbit k (n : Int) = if k.getMsbD n then 1 else 0 := kbit_nat k n
   rw [e] at h2
   cases hb : k.getMsbD n with
   | false => rfl
   | true => rw [hb] at h2; exact absurd h2 h
  simp [this]
 ·
  have : ((n : Int) < i + 1) = ((n : Int) < i) := by rw [eq_iff_iff]; omega
  simp [this]
theorem pow_halves (r : Nat) (hr : r < 8) (b : Nat) : b / 2 ^ (7 - r) * 2 ^ (7 - r) = b / 2 ^ (8 - r) * 2 ^ (8 - r) + b / 2 ^ (7 - r) % 2 * 2 ^ (7 - r) := by
 rw [show 8 - r = (7 - r) + 1 by omega, Nat.pow_succ, ← Nat.div_div_eq_div_mul]
 generalize b / 2 ^ (7 - r) = q
 generalize 2 ^ (7 - r) = m
 rw [show q / 2 * (m * 2) = q / 2 * 2 * m by rw [Nat.mul_assoc, Nat.mul_comm m 2], ← Nat.add_mul]
 congr 1; omega
theorem cut_step_byte (k : Key) (i : Int) (h0 : 0 ≤ i) (h1 : i < 128) (h : kbit k i = 1) : kbyte (kcut k i) (i / 8).toNat + 2 ^ (7 - i % 8).toNat = kbyte (kcut k (i + 1)) (i / 8).toNat := by
 obtain ⟨m, rfl⟩ := Int.eq_ofNat_of_zero_le h0
 rw [show (m : Int) + 1 = ((m + 1 : Nat) : Int) by omega, kbyte_kcut k m _ (by omega), kbyte_kcut k (m + 1) _ (by omega)]
 rw [kbit_eq k _ h0 h1] at h
 have hb : kbyte k ((m : Int) / 8).toNat / 2 ^ (7 - (m : Int) % 8).toNat % 2 = 1 := by omega
 generalize hj : ((m : Int) / 8).toNat = j at *
 generalize hr : (7 - (m : Int) % 8).toNat = r at *
 have hp := pow_halves (7 - r) (by omega) (kbyte k j)
 rw [show 7 - (7 - r) = r by omega, show 8 - (7 - r) = r + 1 by omega, hb, Nat.one_mul] at hp
 rw [if_neg (by omega), if_pos (by omega), show 8 - (m - 8 * j) = r + 1 by omega, ← hp]
 by_cases h7 : 8 * j + 8 ≤ m + 1
 ·
  rw [if_pos h7, show r = 0 by omega, Nat.pow_zero, Nat.div_one, Nat.mul_one]
 ·
  rw [if_neg h7, if_pos (by omega), show 8 - (m + 1 - 8 * j) = r by omega]
theorem cut_step_set (k : Key) (i : Int) (h0 : 0 ≤ i) (h1 : i < 128) (h : kbit k i = 1) : (kcells (kcut k i)).setIfInBounds (i / 8).toNat (.int .u8 ((kbyte (kcut k i) (i / 8).toNat + 2 ^ (7 - i % 8).toNat : Nat) : Int)) = kcells (kcut k (i + 1)) := by
 rw [cut_step_byte k i h0 h1 h, kcells_set _ _ _ (by omega) (kbyte_lt _ _)]
 congr 1
 refine key_ext_byte fun n hn => ?_
 rw [kbyte_kset _ _ _ n hn (kbyte_lt _ _)]
 by_cases e : n = (i / 8).toNat
 ·
  rw [if_pos e, e]
 ·
  rw [if_neg e]
  obtain ⟨m, rfl⟩ := Int.eq_ofNat_of_zero_le h0
  rw [show (m : Int) + 1 = ((m + 1 : Nat) : Int) by omega, kbyte_kcut k m _ hn, kbyte_kcut k (m + 1) _ hn]
  by_cases h2 : 8 * n + 8 ≤ m
  ·
   rw [if_pos h2, if_pos (by omega)]
  ·
   have h3 : ¬ 8 * n ≤ m := fun h3 => e (by omega)
   rw [if_neg h2, if_neg h3, if_neg (show ¬ 8 * n + 8 ≤ m + 1 by omega)]
   by_cases h4 : 8 * n ≤ m + 1
   ·
    rw [if_pos h4, show 8 - (m + 1 - 8 * n) = 8 by omega, Nat.div_eq_of_lt (kbyte_lt k n), Nat.zero_mul]
   ·
    rw [if_neg h4]
theorem cut_end (k : Key) (n i : Int) (h0 : 0 ≤ i) (h1 : i ≤ 128) (h2 : i ≤ n ∨ i = 0) (h : ¬ (i < 128 ∧ i < n)) : kcut k i = kcut k n := by
 refine key_ext fun m hm => ?_
 rw [kcut_msb, kcut_msb]
 congr 1
 rw [decide_eq_decide]; omega
theorem pow_half (j : Int) (h0 : 0 ≤ j) (h : j < 8) : ((2 ^ (7 - j).toNat : Nat) : Int) / 2 = if j = 7 then 0 else ((2 ^ (7 - (j + 1)).toNat : Nat) : Int) := by
 have : (7 - j).toNat = 7 - j.toNat := by omega
 obtain ⟨m, rfl⟩ := Int.eq_ofNat_of_zero_le h0
 match m, h with
 | 0, _ | 1, _ | 2, _ | 3, _ | 4, _ | 5, _ | 6, _ | 7, _ => rfl


set_option maxRecDepth 20000 in
theorem len8_c (x : Nat) (hx : x < 256) : PureFn Try.prog 99 [.int .u8 x] (.int .i64 (len8 x)) := ⟨fun w => by
 refine calls_of (args := [_]) Try.func99 rfl Try.ntmps99 rfl ?_
 change Cw _ _ _ _ _ [(0, .int .u8 x)] []
 refine cw_seq ?_
 refine cw_region ?_
 refine sq_r (ry_assign rfl) ?_
 refine sq_nil ?_
 refine ex_then ?_
 refine cw_seq ?_
 refine cw_region ?_
 refine sq_r (ry_move rfl) ?_
 refine sq_r (ry_idxStr Try.underlying9 rfl rfl (Int.natCast_nonneg _) (tab8 _ (by decide +kernel) x hx)) ?_
 refine sq_r (ry_convn rfl (Nat.lt_of_le_of_lt (len8_le x hx) (by decide))) ?_
 refine sq_r (ry_assign rfl) ?_
 refine sq_nil ?_
 refine ex_then ?_
 refine cw_ret ?_
 refine ex_ret (.inl rfl) (res_tmp rfl rfl) (fun w hw => ?_)
 exact ⟨rfl, hw.sub (List.nil_sublist _)⟩⟩


theorem lz8_aux (x : Nat) (hx : x < 256) : (8 : Int) - (len8 x : Int) = ((8 - len8 x : Nat) : Int) := by have := len8_le x hx; omega

set_option maxRecDepth 20000 in
theorem lz8_c (x : Nat) (hx : x < 256) : PureFn Try.prog 80 [.int .u8 x] (.int .i64 (8 - len8 x : Int)) := ⟨fun w => by
 have hl := len8_le x hx
 refine calls_of (args := [_]) Try.func80 rfl Try.ntmps80 rfl ?_
 change Cw _ _ _ _ _ [(0, .int .u8 x)] []
 refine cw_seq ?_
 refine cw_region ?_
 refine sq_r (ry_assign rfl) ?_
 refine sq_nil ?_
 refine ex_then ?_
 refine cw_seq ?_
 refine cw_region ?_
 refine sq_r (ry_move rfl) ?_
 refine sq_y (yl_call rfl (fun w _ => (len8_c x hx).h w)) ?_
 refine sq_r (ry_sub rfl rfl (by omega)) ?_
 refine sq_r (ry_assign rfl) ?_
 refine sq_nil ?_
 refine ex_then ?_
 refine cw_ret ?_
 refine ex_ret (.inl rfl) (res_tmp rfl rfl) (fun w hw => ?_)
 exact ⟨rfl, hw.sub (List.nil_sublist _)⟩⟩

set_option maxRecDepth 20000 in
theorem common_c (a b : Key) : PureFn Try.prog 57 [.agg (kcells a), .agg (kcells b)] (.int .i64 (kcommon a b)) := ⟨fun w => by
 refine calls_of (args := [_, _]) Try.func57 rfl Try.ntmps57 rfl ?_
 change Cw _ _ _ _ _ [(0, .agg (kcells a)), (1, .agg (kcells b))] []
 refine cw_seq ?_
 refine cw_region ?_
 refine sq_boxA rfl fun b2 => ?_
 refine sq_boxA rfl fun b3 => ?_
 refine sq_r (ry_assign rfl) ?_
 refine sq_nil ?_
 refine ex_then ?_
 refine cw_seq ?_
 refine cw_seq ?_
 refine cw_region ?_
 refine sq_r (ry_move rfl) ?_
 refine sq_nil ?_
 refine ex_then ?_
 refine cw_block ?_
 refine cw_loop (X := Int) (fun i => [(6, .int .i64 i), (2, .pointer (some ⟨b2, 0, none⟩)), (3, .pointer (some ⟨b3, 0, none⟩))]) (fun i => [blk b3 (kcells b) 24, blk b2 (kcells a) 24]) (fun i => 0 ≤ i ∧ i ≤ 16 ∧ ∀ j : Nat, (j : Int) < i → kbyte a j = kbyte b j) (fun i => (16 - i).toNat) 0 ⟨by omega, by omega, fun j h => by omega⟩ (Sub.cons rfl (Sub.cons rfl (Sub.cons rfl (Sub.nil _)))) (fun w hw => hw) ?_
 rintro i ⟨hi0, hi1, hs⟩
 refine cw_seq ?_
 refine cw_region ?_
 refine sq_r (ry_int rfl rfl rfl) ?_
 refine sq_nil ?_
 refine ex_then ?_
 refine cw_seq ?_
 refine cw_cond rfl (fun h0 => ?_) (fun h0 => ?_)
 ·
  have h0 := of_decide_eq_true h0
  refine cw_skip ?_
  refine ex_then ?_
  refine cw_seq ?_
  refine cw_block ?_
  refine cw_seq ?_
  refine cw_region ?_
  refine sq_r (ry_move rfl) ?_
  refine sq_r (ry_assign rfl) ?_
  refine sq_nil ?_
  refine ex_then ?_
  refine cw_seq ?_
  refine cw_quiet (by kernel_rfl) (by kernel_rfl) ?_
  refine qt_r (ry_move rfl) ?_
  refine qt_r (ry_idxA1 rfl rfl (by omega) (by omega)) ?_
  refine qt_r (ry_cell rfl (kcells_get _ _ (by omega))) ?_
  refine qt_r (ry_move rfl) ?_
  refine qt_r (ry_idxA1 rfl rfl (by omega) (by omega)) ?_
  refine qt_r (ry_cell rfl (kcells_get _ _ (by omega))) ?_
  refine qt_r (ry_int rfl rfl rfl) ?_
  refine qt_nil ?_
  refine ex_then ?_
  refine cw_cond rfl (fun h1 => ?_) (fun h1 => ?_)
  ·
   simp at h1
   have hx := Nat.xor_lt_two_pow (n := 8) (kbyte_lt a i.toNat) (kbyte_lt b i.toNat)
   have hl := len8_le _ hx
   refine cw_seq ?_
   refine cw_quiet (by kernel_rfl) (by kernel_rfl) ?_
   refine qt_r (ry_move rfl) ?_
   refine qt_r (ry_mul rfl rfl (by omega)) ?_
   refine qt_r (ry_move rfl) ?_
   refine qt_r (ry_idxA1 rfl rfl (by omega) (by omega)) ?_
   refine qt_r (ry_cell rfl (kcells_get _ _ (by omega))) ?_
   refine qt_r (ry_move rfl) ?_
   refine qt_r (ry_idxA1 rfl rfl (by omega) (by omega)) ?_
   refine qt_r (ry_cell rfl (kcells_get _ _ (by omega))) ?_
   refine qt_r (ry_bxor rfl rfl rfl rfl (kbyte_lt _ _) (kbyte_lt _ _)) ?_
   refine qt_y (yl_call rfl (fun w _ => (lz8_c _ (Nat.xor_lt_two_pow (n := 8) (kbyte_lt a i.toNat) (kbyte_lt b i.toNat))).h w)) ?_
   refine qt_r (ry_add rfl rfl (by omega)) ?_
   refine qt_r (ry_assign rfl) ?_
   refine qt_nil ?_
   refine ex_then ?_
   refine cw_ret ?_
   refine ex_block_ret ?_
   refine ex_pass_ret ?_
   refine ex_pass_ret ?_
   refine ex_block_ret ?_
   refine ex_pass_ret ?_
   refine ex_ret (.inl rfl) (res_tmp rfl rfl) (fun w hw => ?_)
   exact ⟨by rw [kcommon_byte (i := i.toNat) (by omega) (fun j hj => hs j (by omega)) (by omega), Int.toNat_of_nonneg hi0], hw.sub (List.nil_sublist _)⟩
  ·
   simp at h1
   refine cw_skip ?_
   refine ex_block ?_
   refine ex_then ?_
   refine cw_region ?_
   refine sq_r (ry_add rfl rfl (by omega)) ?_
   refine sq_r (ry_move rfl) ?_
   refine sq_nil ?_
   exact ex_again (i + 1) ⟨by omega, by omega, fun j hj => if e : (j : Int) = i then (by rw [show j = i.toNat by omega]; omega) else hs j (by omega)⟩ (by omega) (Sub.cons rfl (Sub.cons rfl (Sub.cons rfl (Sub.nil _)))) (fun w hw => hw)
 ·
  have h0 := of_decide_eq_false h0
  refine cw_exit ?_
  refine ex_pass_exit ?_
  refine ex_pass_exit ?_
  refine ex_block_hit ?_
  refine ex_then ?_
  refine cw_seq ?_
  refine cw_region ?_
  refine sq_r (ry_assign rfl) ?_
  refine sq_nil ?_
  refine ex_then ?_
  refine cw_ret ?_
  refine ex_ret (.inl rfl) (res_tmp rfl rfl) (fun w hw => ?_)
  exact ⟨by rw [kcommon_same (fun j hj => hs j (by omega))], hw.sub (List.nil_sublist _)⟩⟩
instance common_i (a b : Key) : PureFn Try.prog 57 [.agg (kcells a), .agg (kcells b)] (.int .i64 (kcommon a b)) := common_c a b




set_option maxRecDepth 20000 in
theorem may_c (p : Pfx) : PureFn Try.prog 29 [.agg (pcells p)] (.bool (pmay p)) := ⟨fun w => by
 refine calls_of (args := [_]) Try.func29 rfl Try.ntmps29 rfl ?_
 change Cw _ _ _ _ _ [(0, .agg (pcells p))] []
 refine cw_seq ?_
 refine cw_region ?_
 refine sq_boxA rfl fun b1 => ?_
 refine sq_r (ry_assign rfl) ?_
 refine sq_nil ?_
 refine ex_then ?_
 refine cw_seq ?_
 refine cw_seq ?_
 refine cw_region ?_
 refine sq_r (ry_field (o' := 0) rfl rfl) ?_
 refine sq_r (ry_cellc rfl) ?_
 refine sq_y (yl_pure rfl) ?_
 refine sq_r (ry_not rfl) ?_
 refine sq_r (ry_move rfl) ?_
 refine sq_gf rfl rfl rfl (fun hg => (ry_field (o' := 1) rfl rfl).yl) ?_
 refine sq_gf rfl rfl rfl (fun hg => (ry_cellc (ev_c hg rfl)).yl) ?_
 refine sq_gf rfl rfl rfl (fun hg => (ry_int (ev_c hg rfl) rfl rfl).yl) ?_
 refine sq_r (ry_or rfl rfl rfl) ?_
 refine sq_r (ry_move rfl) ?_
 refine sq_gf rfl rfl rfl (fun hg => (ry_field (o' := 1) rfl rfl).yl) ?_
 refine sq_gf rfl rfl rfl (fun hg => (ry_cellc (ev_c hg rfl)).yl) ?_
 refine sq_gf rfl rfl rfl (fun hg => (ry_field (o' := 0) rfl rfl).yl) ?_
 refine sq_gf rfl rfl rfl (fun hg => (ry_cellc (ev_c hg rfl)).yl) ?_
 refine sq_gf rfl rfl rfl (fun hg => (ry_int (ev_c hg rfl) (ev_c hg rfl) rfl).yl) ?_
 refine sq_r (ry_or rfl rfl rfl) ?_
 refine sq_nil ?_
 refine ex_then ?_
 refine cw_cond rfl (fun h0 => ?_) (fun h0 => ?_)
 ·
  refine cw_seq ?_
  refine cw_region ?_
  refine sq_r (ry_assign rfl) ?_
  refine sq_nil ?_
  refine ex_then ?_
  refine cw_ret ?_
  refine ex_pass_ret ?_
  refine ex_ret (.inl rfl) (res_tmp rfl rfl) (fun w hw => ?_)
  refine ⟨?_, hw.sub (List.nil_sublist _)⟩
  have : pmay p = false := by unfold pmay; simp at h0 ⊢; omega
  rw [this]
 ·
  refine cw_skip ?_
  refine ex_then ?_
  refine cw_seq ?_
  refine cw_quiet (by kernel_rfl) (by kernel_rfl) ?_
  refine qt_r (ry_field (o' := 2) rfl rfl) ?_
  refine qt_r (ry_part rfl) ?_
  refine qt_r (ry_field (o' := 1) rfl rfl) ?_
  refine qt_r (ry_cellc rfl) ?_
  refine qt_y (yl_pure rfl) ?_
  refine qt_r (ry_field (o' := 2) rfl rfl) ?_
  refine qt_r (ry_part rfl) ?_
  refine qt_r (ry_eq rfl rfl) ?_
  refine qt_r (ry_assign rfl) ?_
  refine qt_nil ?_
  refine ex_then ?_
  refine cw_ret ?_
  refine ex_ret (.inl rfl) (res_tmp rfl rfl) (fun w hw => ?_)
  refine ⟨?_, hw.sub (List.nil_sublist _)⟩
  congr 2; unfold pmay; simp at h0 ⊢; obtain ⟨⟨h1, h2⟩, h3⟩ := h0; simp [h2, h3, show p.bits = 32 ∨ p.bits = 128 by omega]⟩
instance may_i (p : Pfx) : PureFn Try.prog 29 [.agg (pcells p)] (.bool (pmay p)) := may_c p

set_option maxRecDepth 20000 in
theorem rmay_c (p : Pfx) : PureFn Try.prog 48 [.agg (pcells p)] (.bool (pmay p)) := ⟨fun w => by
 refine calls_of (args := [_]) Try.func48 rfl Try.ntmps48 rfl ?_
 change Cw _ _ _ _ _ [(0, .agg (pcells p))] []
 refine cw_seq ?_
 refine cw_region ?_
 refine sq_boxA rfl fun b1 => ?_
 refine sq_r (ry_assign rfl) ?_
 refine sq_nil ?_
 refine ex_then ?_
 refine cw_seq ?_
 refine cw_seq ?_
 refine cw_region ?_
 refine sq_r (ry_field (o' := 0) rfl rfl) ?_
 refine sq_r (ry_cellc rfl) ?_
 refine sq_r (ry_int rfl rfl rfl) ?_
 refine sq_r (ry_move rfl) ?_
 refine sq_gt rfl rfl rfl (fun hg => (ry_field (o' := 0) rfl rfl).yl) ?_
 refine sq_gt rfl rfl rfl (fun hg => (ry_cellc (ev_c hg rfl)).yl) ?_
 refine sq_gt rfl rfl rfl (fun hg => (ry_int (ev_c hg rfl) rfl rfl).yl) ?_
 refine sq_r (ry_and rfl rfl rfl) ?_
 refine sq_r (ry_move rfl) ?_
 refine sq_gf rfl rfl rfl (fun hg => (ry_field (o' := 1) rfl rfl).yl) ?_
 refine sq_gf rfl rfl rfl (fun hg => (ry_cellc (ev_c hg rfl)).yl) ?_
 refine sq_gf rfl rfl rfl (fun hg => (ry_int (ev_c hg rfl) rfl rfl).yl) ?_
 refine sq_r (ry_or rfl rfl rfl) ?_
 refine sq_r (ry_move rfl) ?_
 refine sq_gf rfl rfl rfl (fun hg => (ry_field (o' := 1) rfl rfl).yl) ?_
 refine sq_gf rfl rfl rfl (fun hg => (ry_cellc (ev_c hg rfl)).yl) ?_
 refine sq_gf rfl rfl rfl (fun hg => (ry_field (o' := 0) rfl rfl).yl) ?_
 refine sq_gf rfl rfl rfl (fun hg => (ry_cellc (ev_c hg rfl)).yl) ?_
 refine sq_gf rfl rfl rfl (fun hg => (ry_int (ev_c hg rfl) (ev_c hg rfl) rfl).yl) ?_
 refine sq_r (ry_or rfl rfl rfl) ?_
 refine sq_nil ?_
 refine ex_then ?_
 refine cw_cond rfl (fun h0 => ?_) (fun h0 => ?_)
 ·
  simp at h0
  refine cw_seq ?_
  refine cw_region ?_
  refine sq_r (ry_assign rfl) ?_
  refine sq_nil ?_
  refine ex_then ?_
  refine cw_ret ?_
  refine ex_pass_ret ?_
  refine ex_ret (.inl rfl) (res_tmp rfl rfl) (fun w hw => ?_)
  refine ⟨?_, hw.sub (List.nil_sublist _)⟩
  have : pmay p = false := by unfold pmay; simp; omega
  rw [this]
 ·
  simp at h0
  refine cw_skip ?_
  refine ex_then ?_
  refine cw_seq ?_
  refine cw_seq ?_
  refine cw_region ?_
  refine sq_r (ry_field (o' := 1) rfl rfl) ?_
  refine sq_r (ry_cellc rfl) ?_
  refine sq_r (ry_assign rfl) ?_
  refine sq_nil ?_
  refine ex_then ?_
  refine cw_block ?_
  refine cw_loop (X := Int) (fun i => [(3, .int .i64 i), (1, .pointer (some ⟨b1, 0, none⟩))]) (fun i => [blk b1 (pcells p) 26]) (fun i => p.len ≤ i ∧ i ≤ 128 ∧ ∀ j : Nat, p.len ≤ (j : Int) → (j : Int) < i → p.key.getMsbD j = false) (fun i => (128 - i).toNat) p.len ⟨by omega, by omega, fun j h h2 => by omega⟩ (Sub.cons rfl (Sub.cons rfl (Sub.nil _))) (fun w hw => hw) ?_
  rintro i ⟨hi0, hi1, hs⟩
  refine cw_seq ?_
  refine cw_seq ?_
  refine cw_region ?_
  refine sq_r (ry_move rfl) ?_
  refine sq_r (ry_int rfl rfl rfl) ?_
  refine sq_nil ?_
  refine ex_then ?_
  refine cw_cond rfl (fun h1 => ?_) (fun h1 => ?_)
  ·
   have h1 := of_decide_eq_true h1
   refine cw_skip ?_
   refine ex_then ?_
   refine cw_seq ?_
   refine cw_block ?_
   refine cw_seq ?_
   refine cw_region ?_
   refine sq_r (ry_field (o' := 2) rfl rfl) ?_
   refine sq_r (ry_part rfl) ?_
   refine sq_r (ry_move rfl) ?_
   refine sq_y (yl_pure rfl) ?_
   refine sq_r (ry_int rfl rfl rfl) ?_
   refine sq_nil ?_
   refine ex_then ?_
   refine cw_cond rfl (fun h2 => ?_) (fun h2 => ?_)
   ·
    simp at h2
    refine cw_seq ?_
    refine cw_region ?_
    refine sq_r (ry_assign rfl) ?_
    refine sq_nil ?_
    refine ex_then ?_
    refine cw_ret ?_
    refine ex_block_ret ?_
    refine ex_pass_ret ?_
    refine ex_pass_ret ?_
    refine ex_block_ret ?_
    refine ex_pass_ret ?_
    refine ex_ret (.inl rfl) (res_tmp rfl rfl) (fun w hw => ?_)
    refine ⟨?_, hw.sub (List.nil_sublist _)⟩
    have : pmay p = false := by
     rw [← Bool.not_eq_true, pmay_bits]; rintro ⟨_, _, _, h⟩; have := h i.toNat (by omega) (by omega); rw [show i = ((i.toNat : Nat) : Int) by omega, kbit_nat, this] at h2; simp at h2
    rw [this]
   ·
    simp at h2
    refine cw_skip ?_
    refine ex_block ?_
    refine ex_then ?_
    refine cw_region ?_
    refine sq_r (ry_move rfl) ?_
    refine sq_r (ry_add rfl rfl (by omega)) ?_
    refine sq_r (ry_assign rfl) ?_
    refine sq_nil ?_
    exact ex_again (i + 1) ⟨by omega, by omega, fun j hj hj2 => if e : (j : Int) = i then (by rw [← e, kbit_nat] at h2; simpa using h2) else hs j hj (by omega)⟩ (by omega) (Sub.cons rfl (Sub.cons rfl (Sub.nil _))) (fun w hw => hw)
  ·
   have h1 := of_decide_eq_false h1
   refine cw_exit ?_
   refine ex_pass_exit ?_
   refine ex_pass_exit ?_
   refine ex_block_hit ?_
   refine ex_then ?_
   refine cw_seq ?_
   refine cw_region ?_
   refine sq_r (ry_assign rfl) ?_
   refine sq_nil ?_
   refine ex_then ?_
   refine cw_ret ?_
   refine ex_ret (.inl rfl) (res_tmp rfl rfl) (fun w hw => ?_)
   refine ⟨?_, hw.sub (List.nil_sublist _)⟩
   have : pmay p = true := (pmay_bits p).2 ⟨by omega, by omega, by omega, fun j hj hj2 => hs j hj2 (by omega)⟩
   rw [this]⟩
instance rmay_i (p : Pfx) : PureFn Try.prog 48 [.agg (pcells p)] (.bool (pmay p)) := rmay_c p

set_option maxRecDepth 20000 in
theorem fits_c (p : Pfx) (k : Key) : PureFn Try.prog 26 [.agg (pcells p), .agg (kcells k)] (.bool (pfits p k)) := ⟨fun w => by
 refine calls_of (args := [_, _]) Try.func26 rfl Try.ntmps26 rfl ?_
 change Cw _ _ _ _ _ [(0, .agg (pcells p)), (1, .agg (kcells k))] []
 refine cw_seq ?_
 refine cw_region ?_
 refine sq_boxA rfl fun b2 => ?_
 refine sq_boxA rfl fun b3 => ?_
 refine sq_r (ry_assign rfl) ?_
 refine sq_nil ?_
 refine ex_then ?_
 refine cw_seq ?_
 refine cw_seq ?_
 refine cw_quiet (by kernel_rfl) (by kernel_rfl) ?_
 refine qt_r (ry_whole rfl) ?_
 refine qt_y (yl_pure rfl) ?_
 refine qt_r (ry_not rfl) ?_
 refine qt_r (ry_move rfl) ?_
 refine qt_gf rfl rfl rfl (fun hg => (ry_whole rfl).yl) ?_
 refine qt_gf rfl rfl rfl (fun hg => (ry_field (o' := 0) rfl rfl).yl) ?_
 refine qt_gf rfl rfl rfl (fun hg => (ry_cellc (ev_c hg rfl)).yl) ?_
 refine qt_gf rfl rfl rfl (fun hg => yl_pure (evl_cons (ev_c hg rfl) (evl_cons (ev_c hg rfl) evl_nil))) ?_
 refine qt_gf rfl rfl rfl (fun hg => (ry_whole rfl).yl) ?_
 refine qt_gf rfl rfl rfl (fun hg => (ry_ne (ev_c hg rfl) (ev_c hg rfl)).yl) ?_
 refine qt_r (ry_or rfl rfl rfl) ?_
 refine qt_nil ?_
 refine ex_then ?_
 refine cw_cond rfl (fun h0 => ?_) (fun h0 => ?_)
 ·
  refine cw_seq ?_
  refine cw_region ?_
  refine sq_r (ry_assign rfl) ?_
  refine sq_nil ?_
  refine ex_then ?_
  refine cw_ret ?_
  refine ex_pass_ret ?_
  refine ex_ret (.inl rfl) (res_tmp rfl rfl) (fun w hw => ?_)
  refine ⟨?_, hw.sub (List.nil_sublist _)⟩
  have : pfits p k = false := by rw [← Bool.not_eq_true, pfits_iff]; rintro ⟨h1, h2, _⟩; simp [h1, h2] at h0
  rw [this]
 ·
  refine cw_skip ?_
  refine ex_then ?_
  refine cw_seq ?_
  refine cw_quiet (by kernel_rfl) (by kernel_rfl) ?_
  refine qt_r (ry_field (o' := 2) rfl rfl) ?_
  refine qt_r (ry_part rfl) ?_
  refine qt_r (ry_whole rfl) ?_
  refine qt_y (yl_pure rfl) ?_
  refine qt_r (ry_field (o' := 1) rfl rfl) ?_
  refine qt_r (ry_cellc rfl) ?_
  refine qt_r (ry_int rfl rfl rfl) ?_
  refine qt_r (ry_assign rfl) ?_
  refine qt_nil ?_
  refine ex_then ?_
  refine cw_ret ?_
  refine ex_ret (.inl rfl) (res_tmp rfl rfl) (fun w hw => ?_)
  refine ⟨?_, hw.sub (List.nil_sublist _)⟩
  congr 2; simp at h0; obtain ⟨h1, h2⟩ := h0; obtain ⟨h3, h4, h5, h6⟩ := (pmay_iff p).1 h1; rw [Bool.eq_iff_iff, pfits_iff, decide_eq_true_iff, kcommon_ge (by omega), h6]; exact ⟨fun h => ⟨h1, h2, h.symm⟩, fun h => h.2.2.symm⟩⟩
instance fits_i (p : Pfx) (k : Key) : PureFn Try.prog 26 [.agg (pcells p), .agg (kcells k)] (.bool (pfits p k)) := fits_c p k

set_option maxRecDepth 20000 in
theorem rfits_c (p : Pfx) (k : Key) : PureFn Try.prog 55 [.agg (pcells p), .agg (kcells k)] (.bool (pfits p k)) := ⟨fun w => by
 refine calls_of (args := [_, _]) Try.func55 rfl Try.ntmps55 rfl ?_
 change Cw _ _ _ _ _ [(0, .agg (pcells p)), (1, .agg (kcells k))] []
 refine cw_seq ?_
 refine cw_region ?_
 refine sq_boxA rfl fun b2 => ?_
 refine sq_boxA rfl fun b3 => ?_
 refine sq_r (ry_assign rfl) ?_
 refine sq_nil ?_
 refine ex_then ?_
 refine cw_seq ?_
 refine cw_seq ?_
 refine cw_region ?_
 refine sq_r (ry_whole rfl) ?_
 refine sq_y (yl_pure rfl) ?_
 refine sq_r (ry_not rfl) ?_
 refine sq_nil ?_
 refine ex_then ?_
 refine cw_cond rfl (fun h0 => ?_) (fun h0 => ?_)
 ·
  simp at h0
  refine cw_seq ?_
  refine cw_region ?_
  refine sq_r (ry_assign rfl) ?_
  refine sq_nil ?_
  refine ex_then ?_
  refine cw_ret ?_
  refine ex_pass_ret ?_
  refine ex_ret (.inl rfl) (res_tmp rfl rfl) (fun w hw => ?_)
  refine ⟨?_, hw.sub (List.nil_sublist _)⟩
  have : pfits p k = false := by unfold pfits; simp [h0]
  rw [this]
 ·
  simp at h0
  refine cw_skip ?_
  refine ex_then ?_
  refine cw_seq ?_
  refine cw_seq ?_
  refine cw_region ?_
  refine sq_r (ry_assign rfl) ?_
  refine sq_nil ?_
  refine ex_then ?_
  refine cw_block ?_
  refine cw_loop (X := Int) (fun i => [(5, .int .i64 i), (2, .pointer (some ⟨b2, 0, none⟩)), (3, .pointer (some ⟨b3, 0, none⟩))]) (fun i => [blk b3 (kcells k) 24, blk b2 (pcells p) 26]) (fun i => 0 ≤ i ∧ i ≤ 128 ∧ ∀ j : Nat, (j : Int) < i → ((j : Int) < p.len → p.key.getMsbD j = k.getMsbD j) ∧ (p.bits ≤ (j : Int) → k.getMsbD j = false)) (fun i => (128 - i).toNat) 0 ⟨by omega, by omega, fun j h => by omega⟩ (Sub.cons rfl (Sub.cons rfl (Sub.cons rfl (Sub.nil _)))) (fun w hw => hw) ?_
  rintro i ⟨hi0, hi1, hs⟩
  refine cw_seq ?_
  refine cw_seq ?_
  refine cw_region ?_
  refine sq_r (ry_move rfl) ?_
  refine sq_r (ry_int rfl rfl rfl) ?_
  refine sq_nil ?_
  refine ex_then ?_
  refine cw_cond rfl (fun h1 => ?_) (fun h1 => ?_)
  ·
   have h1 := of_decide_eq_true h1
   refine cw_skip ?_
   refine ex_then ?_
   refine cw_seq ?_
   refine cw_block ?_
   refine cw_seq ?_
   refine cw_quiet (by kernel_rfl) (by kernel_rfl) ?_
   refine qt_r (ry_move rfl) ?_
   refine qt_r (ry_field (o' := 1) rfl rfl) ?_
   refine qt_r (ry_cellc rfl) ?_
   refine qt_r (ry_int rfl rfl rfl) ?_
   refine qt_r (ry_move rfl) ?_
   refine qt_gt rfl rfl rfl (fun hg => (ry_field (o' := 2) rfl rfl).yl) ?_
   refine qt_gt rfl rfl rfl (fun hg => (ry_part (ev_c hg rfl)).yl) ?_
   refine qt_gt rfl rfl rfl (fun hg => (ry_move rfl).yl) ?_
   refine qt_gt rfl rfl rfl (fun hg => yl_pure (evl_cons (ev_c hg rfl) (evl_cons (ev_c hg rfl) evl_nil))) ?_
   refine qt_gt rfl rfl rfl (fun hg => (ry_whole rfl).yl) ?_
   refine qt_gt rfl rfl rfl (fun hg => (ry_move rfl).yl) ?_
   refine qt_gt rfl rfl rfl (fun hg => yl_pure (evl_cons (ev_c hg rfl) (evl_cons (ev_c hg rfl) evl_nil))) ?_
   refine qt_gt rfl rfl rfl (fun hg => (ry_int (ev_c hg rfl) (ev_c hg rfl) rfl).yl) ?_
   refine qt_r (ry_and rfl rfl rfl) ?_
   refine qt_r (ry_move rfl) ?_
   refine qt_gf rfl rfl rfl (fun hg => (ry_move rfl).yl) ?_
   refine qt_gf rfl rfl rfl (fun hg => (ry_field (o' := 0) rfl rfl).yl) ?_
   refine qt_gf rfl rfl rfl (fun hg => (ry_cellc (ev_c hg rfl)).yl) ?_
   refine qt_gf rfl rfl rfl (fun hg => (ry_int (ev_c hg rfl) (ev_c hg rfl) rfl).yl) ?_
   refine qt_gf rfl rfl rfl (fun hg => (ry_move (ev_c hg rfl)).yl) ?_
   refine qt_nt rfl rfl rfl (fun hg => (ry_whole rfl).yl) ?_
   refine qt_nt rfl rfl rfl (fun hg => (ry_move rfl).yl) ?_
   refine qt_nt rfl rfl rfl (fun hg => yl_pure (evl_cons (ev_c hg rfl) (evl_cons (ev_c hg rfl) evl_nil))) ?_
   refine qt_nt rfl rfl rfl (fun hg => (ry_int (ev_c hg rfl) rfl rfl).yl) ?_
   refine qt_gf rfl rfl rfl (fun hg => (ry_and (ev_c hg rfl) (ev_cc hg rfl) rfl).yl) ?_
   refine qt_r (ry_or rfl rfl rfl) ?_
   refine qt_nil ?_
   refine ex_then ?_
   refine cw_cond rfl (fun h2 => ?_) (fun h2 => ?_)
   ·
    refine cw_seq ?_
    refine cw_region ?_
    refine sq_r (ry_assign rfl) ?_
    refine sq_nil ?_
    refine ex_then ?_
    refine cw_ret ?_
    refine ex_block_ret ?_
    refine ex_pass_ret ?_
    refine ex_pass_ret ?_
    refine ex_block_ret ?_
    refine ex_pass_ret ?_
    refine ex_ret (.inl rfl) (res_tmp rfl rfl) (fun w hw => ?_)
    refine ⟨?_, hw.sub (List.nil_sublist _)⟩
    have : pfits p k = false := by
     rw [← Bool.not_eq_true, pfits_bits p k h0]; intro h; exact fits_yes (n := i.toNat) (by rw [show ((i.toNat : Nat) : Int) = i by omega]; exact h2) (h i.toNat (by omega))
    rw [this]
   ·
    refine cw_skip ?_
    refine ex_block ?_
    refine ex_then ?_
    refine cw_region ?_
    refine sq_r (ry_move rfl) ?_
    refine sq_r (ry_add rfl rfl (by omega)) ?_
    refine sq_r (ry_assign rfl) ?_
    refine sq_nil ?_
    exact ex_again (i + 1) ⟨by omega, by omega, fun j hj => if e : (j : Int) = i then (by rw [← e] at h2; exact fits_no h2) else hs j (by omega)⟩ (by omega) (Sub.cons rfl (Sub.cons rfl (Sub.cons rfl (Sub.nil _)))) (fun w hw => hw)
  ·
   have h1 := of_decide_eq_false h1
   refine cw_exit ?_
   refine ex_pass_exit ?_
   refine ex_pass_exit ?_
   refine ex_block_hit ?_
   refine ex_then ?_
   refine cw_seq ?_
   refine cw_region ?_
   refine sq_r (ry_assign rfl) ?_
   refine sq_nil ?_
   refine ex_then ?_
   refine cw_ret ?_
   refine ex_ret (.inl rfl) (res_tmp rfl rfl) (fun w hw => ?_)
   refine ⟨?_, hw.sub (List.nil_sublist _)⟩
   have : pfits p k = true := (pfits_bits p k h0).2 fun j hj => hs j (by omega)
   rw [this]⟩
instance rfits_i (p : Pfx) (k : Key) : PureFn Try.prog 55 [.agg (pcells p), .agg (kcells k)] (.bool (pfits p k)) := rfits_c p k

set_option maxRecDepth 20000 in
theorem covers_c (p q : Pfx) : PureFn Try.prog 27 [.agg (pcells p), .agg (pcells q)] (.bool (pcovers p q)) := ⟨fun w => by
 refine calls_of (args := [_, _]) Try.func27 rfl Try.ntmps27 rfl ?_
 change Cw _ _ _ _ _ [(0, .agg (pcells p)), (1, .agg (pcells q))] []
 refine cw_seq ?_
 refine cw_region ?_
 refine sq_boxA rfl fun b2 => ?_
 refine sq_boxA rfl fun b3 => ?_
 refine sq_r (ry_assign rfl) ?_
 refine sq_nil ?_
 refine ex_then ?_
 refine cw_seq ?_
 refine cw_seq ?_
 refine cw_region ?_
 refine sq_r (ry_whole rfl) ?_
 refine sq_y (yl_pure rfl) ?_
 refine sq_r (ry_not rfl) ?_
 refine sq_r (ry_move rfl) ?_
 refine sq_gf rfl rfl rfl (fun hg => (ry_whole rfl).yl) ?_
 refine sq_gf rfl rfl rfl (fun hg => yl_pure (evl_cons (ev_c hg rfl) evl_nil)) ?_
 refine sq_gf rfl rfl rfl (fun hg => (ry_not (ev_c hg rfl)).yl) ?_
 refine sq_r (ry_or rfl rfl rfl) ?_
 refine sq_r (ry_move rfl) ?_
 refine sq_gf rfl rfl rfl (fun hg => (ry_field (o' := 0) rfl rfl).yl) ?_
 refine sq_gf rfl rfl rfl (fun hg => (ry_cellc (ev_c hg rfl)).yl) ?_
 refine sq_gf rfl rfl rfl (fun hg => (ry_field (o' := 0) rfl rfl).yl) ?_
 refine sq_gf rfl rfl rfl (fun hg => (ry_cellc (ev_c hg rfl)).yl) ?_
 refine sq_gf rfl rfl rfl (fun hg => (ry_int (ev_c hg rfl) (ev_c hg rfl) rfl).yl) ?_
 refine sq_r (ry_or rfl rfl rfl) ?_
 refine sq_r (ry_move rfl) ?_
 refine sq_gf rfl rfl rfl (fun hg => (ry_field (o' := 1) rfl rfl).yl) ?_
 refine sq_gf rfl rfl rfl (fun hg => (ry_cellc (ev_c hg rfl)).yl) ?_
 refine sq_gf rfl rfl rfl (fun hg => (ry_field (o' := 1) rfl rfl).yl) ?_
 refine sq_gf rfl rfl rfl (fun hg => (ry_cellc (ev_c hg rfl)).yl) ?_
 refine sq_gf rfl rfl rfl (fun hg => (ry_int (ev_c hg rfl) (ev_c hg rfl) rfl).yl) ?_
 refine sq_r (ry_or rfl rfl rfl) ?_
 refine sq_nil ?_
 refine ex_then ?_
 refine cw_cond rfl (fun h0 => ?_) (fun h0 => ?_)
 ·
  refine cw_seq ?_
  refine cw_region ?_
  refine sq_r (ry_assign rfl) ?_
  refine sq_nil ?_
  refine ex_then ?_
  refine cw_ret ?_
  refine ex_pass_ret ?_
  refine ex_ret (.inl rfl) (res_tmp rfl rfl) (fun w hw => ?_)
  refine ⟨?_, hw.sub (List.nil_sublist _)⟩
  have : pcovers p q = false := by unfold pcovers; simp at h0 ⊢; intro h1 h2 h3 h4; simp [h1, h2, h3] at h0; omega
  rw [this]
 ·
  refine cw_skip ?_
  refine ex_then ?_
  refine cw_seq ?_
  refine cw_region ?_
  refine sq_r (ry_whole rfl) ?_
  refine sq_r (ry_field (o' := 2) rfl rfl) ?_
  refine sq_r (ry_part rfl) ?_
  refine sq_y (yl_pure rfl) ?_
  refine sq_r (ry_assign rfl) ?_
  refine sq_nil ?_
  refine ex_then ?_
  refine cw_ret ?_
  refine ex_ret (.inl rfl) (res_tmp rfl rfl) (fun w hw => ?_)
  refine ⟨?_, hw.sub (List.nil_sublist _)⟩
  congr 2; simp at h0; obtain ⟨⟨⟨h1, h2⟩, h3⟩, h4⟩ := h0; obtain ⟨q1, q2, q3, q4⟩ := (pmay_iff q).1 h2; rw [Bool.eq_iff_iff, pfits_iff, pcovers_iff]
  have h5 : kcut q.key p.bits = q.key := (kcut_self_iff _ _).2 fun i hi hb => (kcut_self_iff _ _).1 q4 i hi (by omega)
  exact ⟨fun h => ⟨h1, h2, h3, h4, h.2.2⟩, fun h => ⟨h1, h5, h.2.2.2.2⟩⟩⟩
instance covers_i (p q : Pfx) : PureFn Try.prog 27 [.agg (pcells p), .agg (pcells q)] (.bool (pcovers p q)) := covers_c p q

set_option maxRecDepth 20000 in
theorem rcovers_c (p q : Pfx) : PureFn Try.prog 56 [.agg (pcells p), .agg (pcells q)] (.bool (pcovers p q)) := ⟨fun w => by
 refine calls_of (args := [_, _]) Try.func56 rfl Try.ntmps56 rfl ?_
 change Cw _ _ _ _ _ [(0, .agg (pcells p)), (1, .agg (pcells q))] []
 refine cw_seq ?_
 refine cw_region ?_
 refine sq_boxA rfl fun b2 => ?_
 refine sq_boxA rfl fun b3 => ?_
 refine sq_r (ry_assign rfl) ?_
 refine sq_nil ?_
 refine ex_then ?_
 refine cw_seq ?_
 refine cw_region ?_
 refine sq_r (ry_whole rfl) ?_
 refine sq_y (yl_pure rfl) ?_
 refine sq_r (ry_move rfl) ?_
 refine sq_gt rfl rfl rfl (fun hg => (ry_field (o' := 0) rfl rfl).yl) ?_
 refine sq_gt rfl rfl rfl (fun hg => (ry_cellc (ev_c hg rfl)).yl) ?_
 refine sq_gt rfl rfl rfl (fun hg => (ry_field (o' := 0) rfl rfl).yl) ?_
 refine sq_gt rfl rfl rfl (fun hg => (ry_cellc (ev_c hg rfl)).yl) ?_
 refine sq_gt rfl rfl rfl (fun hg => (ry_int (ev_c hg rfl) (ev_c hg rfl) rfl).yl) ?_
 refine sq_r (ry_and rfl rfl rfl) ?_
 refine sq_r (ry_move rfl) ?_
 refine sq_gt rfl rfl rfl (fun hg => (ry_field (o' := 1) rfl rfl).yl) ?_
 refine sq_gt rfl rfl rfl (fun hg => (ry_cellc (ev_c hg rfl)).yl) ?_
 refine sq_gt rfl rfl rfl (fun hg => (ry_field (o' := 1) rfl rfl).yl) ?_
 refine sq_gt rfl rfl rfl (fun hg => (ry_cellc (ev_c hg rfl)).yl) ?_
 refine sq_gt rfl rfl rfl (fun hg => (ry_int (ev_c hg rfl) (ev_c hg rfl) rfl).yl) ?_
 refine sq_r (ry_and rfl rfl rfl) ?_
 refine sq_r (ry_move rfl) ?_
 refine sq_gt rfl rfl rfl (fun hg => (ry_whole rfl).yl) ?_
 refine sq_gt rfl rfl rfl (fun hg => (ry_field (o' := 2) rfl rfl).yl) ?_
 refine sq_gt rfl rfl rfl (fun hg => (ry_part (ev_c hg rfl)).yl) ?_
 refine sq_gt rfl rfl rfl (fun hg => yl_pure (evl_cons (ev_c hg rfl) (evl_cons (ev_c hg rfl) evl_nil))) ?_
 refine sq_r (ry_and rfl rfl rfl) ?_
 refine sq_r (ry_assign rfl) ?_
 refine sq_nil ?_
 refine ex_then ?_
 refine cw_ret ?_
 refine ex_ret (.inl rfl) (res_tmp rfl rfl) (fun w hw => ?_)
 refine ⟨?_, hw.sub (List.nil_sublist _)⟩
 congr 2; rw [Bool.eq_iff_iff, pcovers_iff]; simp only [Bool.and_eq_true, decide_eq_true_eq, pfits_iff]
 constructor
 ·
  rintro ⟨⟨⟨h2, h3⟩, h4⟩, h1, _, h6⟩; exact ⟨h1, h2, h3, h4, h6⟩
 ·
  rintro ⟨h1, h2, h3, h4, h6⟩
  obtain ⟨q1, q2, q3, q4⟩ := (pmay_iff q).1 h2
  exact ⟨⟨⟨h2, h3⟩, h4⟩, h1, (kcut_self_iff _ _).2 fun i hi hb => (kcut_self_iff _ _).1 q4 i hi (by omega), h6⟩⟩
instance rcovers_i (p q : Pfx) : PureFn Try.prog 56 [.agg (pcells p), .agg (pcells q)] (.bool (pcovers p q)) := rcovers_c p q

end Go.Proofs.Ytldkgicmfbofiaa

/- bytes.Compare over two keys. -/
namespace Go.Proofs.Ytldkgicmfbofiaa
open Go.Eng Go.Kb
open Go.RowKit

def kints (k : Key) : List Int := (List.range 16).map fun i => (kbyte k i : Int)
theorem kints_get (k : Key) (j : Nat) (x : Int) (h : (kints k)[j]? = some x) : j < 16 ∧ x = kbyte k j := by
 have hl : j < 16 := by have := (List.getElem?_eq_some_iff.1 h).1; simpa [kints] using this
 refine ⟨hl, ?_⟩
 simp [kints, hl] at h
 exact h.symm
theorem cmpB_eq {x y : UInt8} {xs ys : List UInt8} : Lib.compareBytes (x :: xs) (y :: ys) = if x.toNat < y.toNat then -1 else if y.toNat < x.toNat then 1 else Lib.compareBytes xs ys := by
 simp [Lib.compareBytes, UInt8.lt_iff_toNat_lt]
theorem cmpB_key (a b : Key) : ∀ (n i : Nat), i + n = 16 → (∀ j, j < i → kbyte a j = kbyte b j) →
  Lib.compareBytes ((List.range' i n).map fun j => (kbyte a j).toUInt8) ((List.range' i n).map fun j => (kbyte b j).toUInt8) = kcmp a b
 | 0, i, hi, hs => by
  have : a = b := key_ext_byte fun j hj => hs j (by omega)
  subst this
  simp [Lib.compareBytes, kcmp]
 | n + 1, i, hi, hs => by
  have ha := kbyte_lt a i
  have hb := kbyte_lt b i
  rw [List.range'_succ, List.map_cons, List.map_cons, cmpB_eq]
  have ea : (kbyte a i).toUInt8.toNat = kbyte a i := by simp; omega
  have eb : (kbyte b i).toUInt8.toNat = kbyte b i := by simp; omega
  rw [ea, eb]
  by_cases h1 : kbyte a i < kbyte b i
  ·
   rw [if_pos h1]
   have := key_lt_of_byte (by omega) hs h1
   unfold kcmp; rw [if_pos this]
  ·
   rw [if_neg h1]
   by_cases h2 : kbyte b i < kbyte a i
   ·
    rw [if_pos h2]
    have := key_lt_of_byte (by omega) (fun j hj => (hs j hj).symm) h2
    unfold kcmp; rw [if_neg (by omega), if_pos this]
   ·
    rw [if_neg h2]
    exact cmpB_key a b n (i + 1) (by omega) fun j hj => by
     by_cases e : j = i
     ·
      subst e; omega
     ·
      exact hs j (by omega)
theorem bytesOf_kints (k : Key) : (⟨ByteArray.empty.data ++ (Lib.bytesOf (kints k)).toArray⟩ : ByteArray).data.toList = (List.range' 0 16).map fun j => (kbyte k j).toUInt8 := by
 simp [Lib.bytesOf, kints, List.range_eq_range']
theorem cmp_c (a b : Key) (p q : Addr) (c c' : Nat) (w : World) (hp : ∀ j, j < 16 → w.cell? (p.add j) = some (.int .u8 (kbyte a j))) (hq : ∀ j, j < 16 → w.cell? (q.add j) = some (.int .u8 (kbyte b j))) :
  Calls Try.prog 59 [.slice (some p) 16 c, .slice (some q) 16 c'].toArray w fun e w' => e = .returned (.int .i64 (kcmp a b)) ∧ Mem w [] w' := by
 refine calls_of (args := [_, _]) Try.func59 rfl Try.ntmps59 rfl ?_
 change Cw _ _ _ _ _ [(0, .slice (some p) 16 c), (1, .slice (some q) 16 c')] []
 refine cw_seq ?_
 refine cw_region ?_
 refine sq_r (ry_assign rfl) ?_
 refine sq_nil ?_
 refine ex_then ?_
 refine cw_seq ?_
 refine cw_region ?_
 refine sq_r (ry_move rfl) ?_
 refine sq_r (ry_move rfl) ?_
 refine sq_r (v := .int .i64 (kcmp a b)) ?_ ?_
 ·
  intro aa w1 ha hw
  have hpb : ∀ j, j < 16 → w1.cell? (p.add j) = some (.int .u8 (kbyte a j)) := fun j hj => by
   rw [← hp j hj]; exact hw.below.cell (block_lt_of_cell (hp j hj))
  have hqb : ∀ j, j < 16 → w1.cell? (q.add j) = some (.int .u8 (kbyte b j)) := fun j hj => by
   rw [← hq j hj]; exact hw.below.cell (block_lt_of_cell (hq j hj))
  have r1 := Lib.run_loadBytesX (P := Try.prog) w1 (kints a) p .empty (fun j x hx => by obtain ⟨h1, rfl⟩ := kints_get a j x hx; exact hpb j h1)
  have r2 := Lib.run_loadBytesX (P := Try.prog) w1 (kints b) q .empty (fun j x hx => by obtain ⟨h1, rfl⟩ := kints_get b j x hx; exact hqb j h1)
  have l1 : (kints a).length = 16 := by simp [kints]
  have l2 : (kints b).length = 16 := by simp [kints]
  rw [l1] at r1
  rw [l2] at r2
  have e5 := ha.ev (x := .tmp 5) (v := .slice (some p) 16 c) rfl
  have e6 := ha.ev (x := .tmp 6) (v := .slice (some q) 16 c') rfl
  have hrun : (callFunc 81 #[.slice (some p) 16 c, .slice (some q) 16 c']).run Try.prog w1 = .ok (.value (.int .i64 (kcmp a b))) w1 := by
   rw [run_callFunc_extern Try.func81 (by kernel_rfl) (by kernel_rfl) (by kernel_rfl) (e := Extern.BytealgCompare.compare) (by kernel_rfl)]
   have : (Extern.BytealgCompare.compare #[.slice (some p) 16 c, .slice (some q) 16 c']).run Try.prog w1 = .ok (.int .i64 (kcmp a b)) w1 := by
    change Sem.run Try.prog (do pure (goInt (Extern.BytealgCompare.cmp (← Extern.Bytes.bytesOf (.slice (some p) 16 c)) (← Extern.Bytes.bytesOf (.slice (some q) 16 c'))))) w1 = _
    simp only [Extern.Bytes.bytesOf, Sem.run_bind, r1, r2, Sem.run_pure, Result.andThen]
    rw [Lib.cmp_eq, bytesOf_kints, bytesOf_kints, cmpB_key a b 16 0 rfl (fun j h => by omega)]
    rfl
   rw [this]; rfl
  simp [execOp, resolve, Act.eval, Deferred.ofValue, invoke] at e5 e6 ⊢
  rw [e5, e6, hrun]
 refine sq_r (ry_assign rfl) ?_
 refine sq_nil ?_
 refine ex_then ?_
 refine cw_ret ?_
 refine ex_ret (.inl rfl) (res_tmp rfl rfl) (fun w hw => ?_)
 exact ⟨rfl, hw.sub (List.nil_sublist _)⟩

end Go.Proofs.Ytldkgicmfbofiaa

/- The order of prefixes, walked. -/
namespace Go.Proofs.Ytldkgicmfbofiaa
open Go.Eng Go.Kb
open Go.RowKit

theorem key_cell {w0 w : World} {L : List Ent} {b : Nat} {p : Pfx} {T : TypeId} {i : Nat} (hw : Mem w0 L w) [hh : Has L b (pcells p) T i] (j : Nat) (hj : j < 16) : w.cell? ((⟨b, 2, none⟩ : Addr).add j) = some (.int .u8 (kbyte p.key j)) := by
 rw [Addr.add_none, hw.cell hh.h, pcells_k, kcells_get _ j hj]
theorem bit_less {a b : Key} {n : Nat} (hn : n < 128) (hs : ∀ j, j < n → a.getMsbD j = b.getMsbD j) (hd : ¬ kbit a (n : Int) = kbit b (n : Int)) : kbit a (n : Int) = 0 ↔ a.toNat < b.toNat := by
 rw [kbit_same] at hd
 rw [kbit_nat]
 cases ha : a.getMsbD n <;> cases hb : b.getMsbD n <;> simp [ha, hb] at hd ⊢
 ·
  exact key_lt_of_bit hn hs ha hb
 ·
  have := key_lt_of_bit hn (fun j hj => (hs j hj).symm) hb ha
  omega
theorem pless_eq {p q : Pfx} (h1 : pmay p = true) (h2 : pmay q = true) : pless p q = (if p.bits ≠ q.bits then decide (p.bits = 32) else if p.key ≠ q.key then decide (p.key.toNat < q.key.toNat) else decide (p.len < q.len)) := by
 unfold pless; rw [h1, h2]; rfl

set_option maxRecDepth 20000 in
theorem less_c (p q : Pfx) : PureFn Try.prog 30 [.agg (pcells p), .agg (pcells q)] (.bool (pless p q)) := ⟨fun w => by
 refine calls_of (args := [_, _]) Try.func30 rfl Try.ntmps30 rfl ?_
 change Cw _ _ _ _ _ [(0, .agg (pcells p)), (1, .agg (pcells q))] []
 refine cw_seq ?_
 refine cw_region ?_
 refine sq_boxA rfl fun b2 => ?_
 refine sq_boxA rfl fun b3 => ?_
 refine sq_r (ry_assign rfl) ?_
 refine sq_nil ?_
 refine ex_then ?_
 refine cw_seq ?_
 refine cw_seq ?_
 refine cw_region ?_
 refine sq_r (ry_whole rfl) ?_
 refine sq_y (yl_pure rfl) ?_
 refine sq_r (ry_not rfl) ?_
 refine sq_r (ry_move rfl) ?_
 refine sq_gf rfl rfl rfl (fun hg => (ry_whole rfl).yl) ?_
 refine sq_gf rfl rfl rfl (fun hg => yl_pure (evl_cons (ev_c hg rfl) evl_nil)) ?_
 refine sq_gf rfl rfl rfl (fun hg => (ry_not (ev_c hg rfl)).yl) ?_
 refine sq_r (ry_or rfl rfl rfl) ?_
 refine sq_nil ?_
 refine ex_then ?_
 refine cw_cond rfl (fun h0 => ?_) (fun h0 => ?_)
 ·
  simp at h0
  refine cw_seq ?_
  refine cw_region ?_
  refine sq_r (ry_assign rfl) ?_
  refine sq_nil ?_
  refine ex_then ?_
  refine cw_ret ?_
  refine ex_pass_ret ?_
  refine ex_ret (.inl rfl) (res_tmp rfl rfl) (fun w hw => ?_)
  refine ⟨?_, hw.sub (List.nil_sublist _)⟩
  have : pless p q = false := by unfold pless; cases h1 : pmay p <;> cases h2 : pmay q <;> simp_all
  rw [this]
 ·
  simp at h0
  obtain ⟨m1, m2⟩ := h0
  refine cw_skip ?_
  refine ex_then ?_
  refine cw_seq ?_
  refine cw_seq ?_
  refine cw_region ?_
  refine sq_r (ry_field (o' := 0) rfl rfl) ?_
  refine sq_r (ry_cellc rfl) ?_
  refine sq_r (ry_field (o' := 0) rfl rfl) ?_
  refine sq_r (ry_cellc rfl) ?_
  refine sq_r (ry_int rfl rfl rfl) ?_
  refine sq_nil ?_
  refine ex_then ?_
  refine cw_cond rfl (fun h1 => ?_) (fun h1 => ?_)
  ·
   simp at h1
   refine cw_seq ?_
   refine cw_region ?_
   refine sq_r (ry_field (o' := 0) rfl rfl) ?_
   refine sq_r (ry_cellc rfl) ?_
   refine sq_r (ry_int rfl rfl rfl) ?_
   refine sq_r (ry_assign rfl) ?_
   refine sq_nil ?_
   refine ex_then ?_
   refine cw_ret ?_
   refine ex_pass_ret ?_
   refine ex_ret (.inl rfl) (res_tmp rfl rfl) (fun w hw => ?_)
   exact ⟨by rw [pless_eq m1 m2, if_pos h1], hw.sub (List.nil_sublist _)⟩
  ·
   simp at h1
   refine cw_skip ?_
   refine ex_then ?_
   refine cw_seq ?_
   refine cw_seq ?_
   refine cw_quiet (by kernel_rfl) (by kernel_rfl) ?_
   refine qt_r (ry_field (o' := 2) rfl rfl) ?_
   refine qt_r (ry_sliceA_all rfl) ?_
   refine qt_r (ry_field (o' := 2) rfl rfl) ?_
   refine qt_r (ry_sliceA_all rfl) ?_
   refine qt_y (yl_call rfl (fun w hw => cmp_c p.key q.key _ _ _ _ w (key_cell hw) (key_cell hw))) ?_
   refine qt_r (ry_assign rfl) ?_
   refine qt_nil ?_
   refine ex_then ?_
   refine cw_seq ?_
   refine cw_region ?_
   refine sq_r (ry_move rfl) ?_
   refine sq_r (ry_int rfl rfl rfl) ?_
   refine sq_nil ?_
   refine ex_then ?_
   refine cw_cond rfl (fun h2 => ?_) (fun h2 => ?_)
   ·
    simp at h2
    refine cw_seq ?_
    refine cw_region ?_
    refine sq_r (ry_move rfl) ?_
    refine sq_r (ry_int rfl rfl rfl) ?_
    refine sq_r (ry_assign rfl) ?_
    refine sq_nil ?_
    refine ex_then ?_
    refine cw_ret ?_
    refine ex_pass_ret ?_
    refine ex_ret (.inl rfl) (res_tmp rfl rfl) (fun w hw => ?_)
    exact ⟨by rw [pless_eq m1 m2, if_neg (by simpa using h1), if_pos (fun e => h2 ((kcmp_eq _ _).2 e)), decide_eq_decide.2 (kcmp_lt _ _)], hw.sub (List.nil_sublist _)⟩
   ·
    simp at h2
    refine cw_skip ?_
    refine ex_then ?_
    refine cw_seq ?_
    refine cw_region ?_
    refine sq_r (ry_field (o' := 1) rfl rfl) ?_
    refine sq_r (ry_cellc rfl) ?_
    refine sq_r (ry_field (o' := 1) rfl rfl) ?_
    refine sq_r (ry_cellc rfl) ?_
    refine sq_r (ry_int rfl rfl rfl) ?_
    refine sq_r (ry_assign rfl) ?_
    refine sq_nil ?_
    refine ex_then ?_
    refine cw_ret ?_
    refine ex_ret (.inl rfl) (res_tmp rfl rfl) (fun w hw => ?_)
    exact ⟨by rw [pless_eq m1 m2, if_neg (by simpa using h1), if_neg (by simpa using (kcmp_eq _ _).1 h2)], hw.sub (List.nil_sublist _)⟩⟩
instance less_i (p q : Pfx) : PureFn Try.prog 30 [.agg (pcells p), .agg (pcells q)] (.bool (pless p q)) := less_c p q

set_option maxRecDepth 20000 in
theorem rless_c (p q : Pfx) : PureFn Try.prog 49 [.agg (pcells p), .agg (pcells q)] (.bool (pless p q)) := ⟨fun w => by
 refine calls_of (args := [_, _]) Try.func49 rfl Try.ntmps49 rfl ?_
 change Cw _ _ _ _ _ [(0, .agg (pcells p)), (1, .agg (pcells q))] []
 refine cw_seq ?_
 refine cw_region ?_
 refine sq_boxA rfl fun b2 => ?_
 refine sq_boxA rfl fun b3 => ?_
 refine sq_r (ry_assign rfl) ?_
 refine sq_nil ?_
 refine ex_then ?_
 refine cw_seq ?_
 refine cw_seq ?_
 refine cw_region ?_
 refine sq_r (ry_whole rfl) ?_
 refine sq_y (yl_pure rfl) ?_
 refine sq_r (ry_not rfl) ?_
 refine sq_r (ry_move rfl) ?_
 refine sq_gf rfl rfl rfl (fun hg => (ry_whole rfl).yl) ?_
 refine sq_gf rfl rfl rfl (fun hg => yl_pure (evl_cons (ev_c hg rfl) evl_nil)) ?_
 refine sq_gf rfl rfl rfl (fun hg => (ry_not (ev_c hg rfl)).yl) ?_
 refine sq_r (ry_or rfl rfl rfl) ?_
 refine sq_nil ?_
 refine ex_then ?_
 refine cw_cond rfl (fun h0 => ?_) (fun h0 => ?_)
 ·
  simp at h0
  refine cw_seq ?_
  refine cw_region ?_
  refine sq_r (ry_assign rfl) ?_
  refine sq_nil ?_
  refine ex_then ?_
  refine cw_ret ?_
  refine ex_pass_ret ?_
  refine ex_ret (.inl rfl) (res_tmp rfl rfl) (fun w hw => ?_)
  refine ⟨?_, hw.sub (List.nil_sublist _)⟩
  have : pless p q = false := by unfold pless; cases h1 : pmay p <;> cases h2 : pmay q <;> simp_all
  rw [this]
 ·
  simp at h0
  obtain ⟨m1, m2⟩ := h0
  refine cw_skip ?_
  refine ex_then ?_
  refine cw_seq ?_
  refine cw_seq ?_
  refine cw_region ?_
  refine sq_r (ry_field (o' := 0) rfl rfl) ?_
  refine sq_r (ry_cellc rfl) ?_
  refine sq_r (ry_field (o' := 0) rfl rfl) ?_
  refine sq_r (ry_cellc rfl) ?_
  refine sq_r (ry_int rfl rfl rfl) ?_
  refine sq_nil ?_
  refine ex_then ?_
  refine cw_cond rfl (fun h1 => ?_) (fun h1 => ?_)
  ·
   simp at h1
   refine cw_seq ?_
   refine cw_region ?_
   refine sq_r (ry_field (o' := 0) rfl rfl) ?_
   refine sq_r (ry_cellc rfl) ?_
   refine sq_r (ry_field (o' := 0) rfl rfl) ?_
   refine sq_r (ry_cellc rfl) ?_
   refine sq_r (ry_int rfl rfl rfl) ?_
   refine sq_r (ry_assign rfl) ?_
   refine sq_nil ?_
   refine ex_then ?_
   refine cw_ret ?_
   refine ex_pass_ret ?_
   refine ex_ret (.inl rfl) (res_tmp rfl rfl) (fun w hw => ?_)
   refine ⟨?_, hw.sub (List.nil_sublist _)⟩
   obtain ⟨p1, _⟩ := (pmay_iff p).1 m1
   obtain ⟨q1, _⟩ := (pmay_iff q).1 m2
   rw [pless_eq m1 m2, if_pos h1]
   congr 2; rw [decide_eq_decide]; omega
  ·
   simp at h1
   refine cw_skip ?_
   refine ex_then ?_
   refine cw_seq ?_
   refine cw_seq ?_
   refine cw_region ?_
   refine sq_r (ry_assign rfl) ?_
   refine sq_nil ?_
   refine ex_then ?_
   refine cw_block ?_
   refine cw_loop (X := Int) (fun i => [(5, .int .i64 i), (2, .pointer (some ⟨b2, 0, none⟩)), (3, .pointer (some ⟨b3, 0, none⟩))]) (fun i => [blk b3 (pcells q) 26, blk b2 (pcells p) 26]) (fun i => 0 ≤ i ∧ i ≤ 128 ∧ ∀ j : Nat, (j : Int) < i → p.key.getMsbD j = q.key.getMsbD j) (fun i => (128 - i).toNat) 0 ⟨by omega, by omega, fun j h => by omega⟩ (Sub.cons rfl (Sub.cons rfl (Sub.cons rfl (Sub.nil _)))) (fun w hw => hw) ?_
   rintro i ⟨hi0, hi1, hs⟩
   refine cw_seq ?_
   refine cw_seq ?_
   refine cw_region ?_
   refine sq_r (ry_move rfl) ?_
   refine sq_r (ry_int rfl rfl rfl) ?_
   refine sq_nil ?_
   refine ex_then ?_
   refine cw_cond rfl (fun h2 => ?_) (fun h2 => ?_)
   ·
    have h2 := of_decide_eq_true h2
    refine cw_skip ?_
    refine ex_then ?_
    refine cw_seq ?_
    refine cw_block ?_
    refine cw_seq ?_
    refine cw_quiet (by kernel_rfl) (by kernel_rfl) ?_
    refine qt_r (ry_field (o' := 2) rfl rfl) ?_
    refine qt_r (ry_part rfl) ?_
    refine qt_r (ry_move rfl) ?_
    refine qt_y (yl_pure rfl) ?_
    refine qt_r (ry_field (o' := 2) rfl rfl) ?_
    refine qt_r (ry_part rfl) ?_
    refine qt_r (ry_move rfl) ?_
    refine qt_y (yl_pure rfl) ?_
    refine qt_r (ry_int rfl rfl rfl) ?_
    refine qt_nil ?_
    refine ex_then ?_
    refine cw_cond rfl (fun h3 => ?_) (fun h3 => ?_)
    ·
     simp at h3
     have hd : p.key ≠ q.key := fun e => h3 (by rw [e])
     refine cw_seq ?_
     refine cw_region ?_
     refine sq_r (ry_field (o' := 2) rfl rfl) ?_
     refine sq_r (ry_part rfl) ?_
     refine sq_r (ry_move rfl) ?_
     refine sq_y (yl_pure rfl) ?_
     refine sq_r (ry_int rfl rfl rfl) ?_
     refine sq_r (ry_assign rfl) ?_
     refine sq_nil ?_
     refine ex_then ?_
     refine cw_ret ?_
     refine ex_block_ret ?_
     refine ex_pass_ret ?_
     refine ex_pass_ret ?_
     refine ex_block_ret ?_
     refine ex_pass_ret ?_
     refine ex_ret (.inl rfl) (res_tmp rfl rfl) (fun w hw => ?_)
     refine ⟨?_, hw.sub (List.nil_sublist _)⟩
     rw [pless_eq m1 m2, if_neg (by simpa using h1), if_pos hd]
     congr 2; rw [decide_eq_decide]
     rw [show i = ((i.toNat : Nat) : Int) by omega] at h3 ⊢
     exact bit_less (by omega) (fun j hj => hs j (by omega)) h3
    ·
     simp at h3
     refine cw_skip ?_
     refine ex_block ?_
     refine ex_then ?_
     refine cw_region ?_
     refine sq_r (ry_move rfl) ?_
     refine sq_r (ry_add rfl rfl (by omega)) ?_
     refine sq_r (ry_assign rfl) ?_
     refine sq_nil ?_
     exact ex_again (i + 1) ⟨by omega, by omega, fun j hj => if e : (j : Int) = i then (by rw [← e] at h3; exact kbit_same.1 h3) else hs j (by omega)⟩ (by omega) (Sub.cons rfl (Sub.cons rfl (Sub.cons rfl (Sub.nil _)))) (fun w hw => hw)
   ·
    have h2 := of_decide_eq_false h2
    refine cw_exit ?_
    refine ex_pass_exit ?_
    refine ex_pass_exit ?_
    refine ex_block_hit ?_
    refine ex_then ?_
    refine cw_seq ?_
    refine cw_region ?_
    refine sq_r (ry_field (o' := 1) rfl rfl) ?_
    refine sq_r (ry_cellc rfl) ?_
    refine sq_r (ry_field (o' := 1) rfl rfl) ?_
    refine sq_r (ry_cellc rfl) ?_
    refine sq_r (ry_int rfl rfl rfl) ?_
    refine sq_r (ry_assign rfl) ?_
    refine sq_nil ?_
    refine ex_then ?_
    refine cw_ret ?_
    refine ex_ret (.inl rfl) (res_tmp rfl rfl) (fun w hw => ?_)
    refine ⟨?_, hw.sub (List.nil_sublist _)⟩
    have e : p.key = q.key := key_ext fun j hj => hs j (by omega)
    rw [pless_eq m1 m2, if_neg (by simpa using h1), if_neg (by simpa using e)]⟩
instance rless_i (p q : Pfx) : PureFn Try.prog 49 [.agg (pcells p), .agg (pcells q)] (.bool (pless p q)) := rless_c p q

end Go.Proofs.Ytldkgicmfbofiaa

/- Slices and routes as cells of this program. -/
namespace Go.Proofs.Ytldkgicmfbofiaa
open Go.Eng Go.Kb
instance zsT22 : ZeroT Try.prog 22 (.slice none 0 0) := ⟨by kernel_rfl⟩
instance slT22 : SlT Try.prog 22 34 19 40 := ⟨Try.underlying22, by kernel_rfl⟩
instance zsT27 : ZeroT Try.prog 27 (.slice none 0 0) := ⟨by kernel_rfl⟩
instance slT27 : SlT Try.prog 27 52 20 48 := ⟨Try.underlying27, by kernel_rfl⟩
instance zsT62 : ZeroT Try.prog 62 (.slice none 0 0) := ⟨by kernel_rfl⟩
instance slT62 : SlT Try.prog 62 26 18 32 := ⟨Try.underlying62, by kernel_rfl⟩
instance zsT89 : ZeroT Try.prog 89 (.slice none 0 0) := ⟨by kernel_rfl⟩
instance slT89 : SlT Try.prog 89 5 1 1 := ⟨Try.underlying89, by kernel_rfl⟩
instance zsT115 : ZeroT Try.prog 115 (.slice none 0 0) := ⟨by kernel_rfl⟩
instance slT115 : SlT Try.prog 115 22 1 24 := ⟨Try.underlying115, by kernel_rfl⟩
instance : Enc rcells 19 := ⟨rcells_size, fun r => by
 have h : (pcells r.p).all (·.oneCell') = true := (inferInstance : SizeIs (pcells r.p) 18).one
 rw [rcells, Array.all_append, h]; simp [Value.oneCell']⟩
instance : Deep Rt := Deep.flat rcells 19
instance : FlatT Rt rcells 19 := ⟨rfl, fun _ => rfl⟩
instance (r : Rt) : SizeIs (rcells r) 19 := ⟨rcells_size r, Enc.one r⟩
instance (r : Rt) : PartAt (rcells r) 0 18 (pcells r.p) := ⟨pcells_size _, fun j hj => by rw [Nat.zero_add]; exact rcells_p r j hj⟩
instance (r : Rt) : CellAt (rcells r) 18 (.int .u16 r.hop.toNat) := ⟨rcells_hop r⟩
instance (r : Rt) : CellAt (rcells r) 0 (.int .i64 r.p.bits) := ⟨(rcells_p r 0 (by decide)).trans (pcells_0 r.p)⟩
instance (r : Rt) : CellAt (rcells r) 1 (.int .i64 r.p.len) := ⟨(rcells_p r 1 (by decide)).trans (pcells_1 r.p)⟩
instance (r : Rt) : PartAt (rcells r) 2 16 (kcells r.p.key) := ⟨kcells_size _, fun j hj => (rcells_p r (2 + j) (by omega)).trans (pcells_k r.p j)⟩
theorem part22 (d : Nat) : PartT Try.prog (d + 1) 29 false [0] := ⟨⟨_, Try.underlying29, rfl⟩, by kernel_rfl, fun _ => rfl, eqF_int Try.underlying29⟩
theorem stoodR : Try.prog.stoodInHeld 34 = false := by kernel_rfl
theorem partR (d : Nat) : PartT Try.prog (d + 1 + 1 + 1 + 1) 34 true (([0] ++ ([0] ++ ((List.replicate 16 [0]).flatten ++ []))) ++ ([0] ++ [])) := ⟨⟨_, Try.underlying34, rfl⟩, by kernel_rfl, (fun h => by cases h),
 eqF_struct Try.underlying34 stoodR ⟨by decide, rfl, _, _, _, rfl, partX _, by decide, rfl, _, _, _, rfl, part22 _, rfl⟩⟩
theorem guardR : Try.prog.eqGuardType Try.prog.depth 34 = false := by kernel_rfl
instance (a b : Rt) : EqV Try.prog 34 (.agg (rcells a)) (.agg (rcells b)) (decide (a = b)) :=
 (partR 9996).eq.val rfl guardR (rcells_size a) (rcells_size b) (fun i k hk => by
  have h0 : k = 0 := by
   have : k ∈ (([0] ++ ([0] ++ ((List.replicate 16 [0]).flatten ++ []))) ++ ([0] ++ [])) := List.mem_of_getElem? hk
   simpa using this
  subst h0
  have hi : i < 19 := (List.getElem?_eq_some_iff.1 hk).1
  match i, hi with
  | 0, _ => exact ⟨_, _, (inferInstance : CellAt (rcells a) 0 _).h, (inferInstance : CellAt (rcells b) 0 _).h, rfl⟩
  | 1, _ => exact ⟨_, _, (inferInstance : CellAt (rcells a) 1 _).h, (inferInstance : CellAt (rcells b) 1 _).h, rfl⟩
  | j + 2, hi =>
   rcases Nat.lt_or_ge j 16 with h | h
   ·
    rw [Nat.add_comm j 2]
    exact ⟨_, _, (rcells_p a _ (by omega)).trans ((pcells_k a.p j).trans (kcells_get _ j h)), (rcells_p b _ (by omega)).trans ((pcells_k b.p j).trans (kcells_get _ j h)), rfl⟩
   ·
    obtain rfl : j = 16 := by omega
    exact ⟨_, _, rcells_hop a, rcells_hop b, rfl⟩) (by rw [decide_eq_true_iff]; exact ⟨rcells_inj, fun h => by rw [h]⟩)
instance : BuildT Try.prog 34 [] (.agg (rcells zroute)) := ⟨fun w => by unfold rcells pcells zroute; rw [kcells_zero]; kernel_rfl⟩
instance : BuildT Try.prog 26 [] (.agg (pcells ⟨0, 0, 0#128⟩)) := ⟨fun w => by unfold pcells; rw [kcells_zero]; kernel_rfl⟩
instance (n m : Int) : BuildT Try.prog 26 [(0, .int .i64 n), (1, .int .i64 m)] (.agg (pcells ⟨n, m, 0#128⟩)) := ⟨fun w => by unfold pcells; rw [kcells_zero]; kernel_rfl⟩
instance (p : Pfx) (h : UInt16) : BuildT Try.prog 34 [(0, .agg (pcells p)), (1, .int .u16 h.toNat)] (.agg (rcells ⟨p, h⟩)) := ⟨fun w => by kernel_rfl⟩
instance : ZeroT Try.prog 34 (.agg (rcells zroute)) := ⟨by unfold rcells pcells zroute; rw [kcells_zero]; kernel_rfl⟩

end Go.Proofs.Ytldkgicmfbofiaa

