/- What a law's row asks once its call is known to yield true and to leave the memory that was there as it was. -/
import Derived.Test.YtldkgicmfbofiaaDoorEng
import Derived.Test.YtldkgicmfbofiaaDoorKey
import Derived.ProofKit
set_option linter.unusedSimpArgs false
set_option linter.unusedVariables false
namespace Go.Eng
open Go.ChangeShapes Go.WideShapes Go.ChangeAt Go.RowKit Go.Kb

variable {H : Type} {enc : TypeId × Value → H} {P : Program}

theorem trodAll_stays (hl : laidOutB P = true) {W W' : World} {sp : Nat → Bool} : ∀ {ts : List TypeId} {vs : List Value} {ds : List (DataW H)} {ps : List MemPlace},
    (∀ t ∈ ts, P.readableRec t = true ∧ t < P.types.size) → DataW.TrodAll enc P W 0 (fun _ => true) true ts vs ds ps → (∀ p ∈ ps, W.sameAt W' p) → (∀ p ∈ ps, sp p.block = true) →
    DataW.TrodAll enc P W' 0 sp true ts vs ds ps
  | [], _, _, _, _, h, _, _ => by
    obtain ⟨rfl, rfl, rfl⟩ := trodAll_nil h
    exact rfl
  | t :: _, _, _, _, ht, h, hs, hp => by
    obtain ⟨v, vs1, d, ds1, a, b, rfl, rfl, rfl, h1, h2⟩ := trodAll_cons h
    exact ⟨a, b, WideElems.Trod_stays hl (ht t (by simp)).1 (ht t (by simp)).2 h1 (fun p h => hs p (by simp [h])) (fun p h => hp p (by simp [h])),
      trodAll_stays hl (fun t h => ht t (by simp [h])) h2 (fun p h => hs p (by simp [h])) (fun p h => hp p (by simp [h])), rfl⟩

theorem trodAll_length {W : World} {b : Nat} {sp : Nat → Bool} {hd : Bool} : ∀ {ts : List TypeId} {vs : List Value} {ds : List (DataW H)} {ps : List MemPlace},
    DataW.TrodAll enc P W b sp hd ts vs ds ps → vs.length = ts.length ∧ ds.length = ts.length
  | [], _, _, _, h => by
    obtain ⟨rfl, rfl, rfl⟩ := trodAll_nil h
    exact ⟨rfl, rfl⟩
  | _ :: _, _, _, _, h => by
    obtain ⟨v, vs1, d, ds1, a, b, rfl, rfl, rfl, h1, h2⟩ := trodAll_cons h
    have := trodAll_length h2
    simp [this.1, this.2]

/-- A law that yields true and leaves what lay there: its row's closing condition. -/
theorem post_true (hl : laidOutB P = true) {f : Func} {s : ChangeSpec} {apart fresh handsOn : Bool} {W W' : World} {args : Array Value} {ds gs : List (DataW H)} {before : List MemPlace} {tb : TypeId}
    (hp : f.params.toList.all (fun t => P.readableRec t && decide (t < P.types.size)) = true) (hr : f.resultTypes = #[tb]) (hb : P.underlying tb = some .bool) (hv : s.vars = [])
    (hfn : ∀ ds : List (DataW H), ds.length = f.params.size → s.fn H ds = { results := [.lit (.bool true)], args := ds })
    (hW : DataW.Whole enc P f.params.toList s.vars apart W args.toList ds gs before) (hbel : Below W.heap.size W W') :
    s.post enc P f apart fresh handsOn false W args (.bool true) W' := by
  have hlt := hW.lt
  have hW0 := hW
  obtain ⟨p, q, hA, hV, rfl, hfz, hnd⟩ := hW
  rw [hv] at hV
  obtain ⟨rfl, rfl⟩ := trodVars_none hV
  have hlen := trodAll_length hA
  have e1 : s.fn H (ds ++ []) = { results := [.lit (.bool true)], args := ds } := by rw [List.append_nil]; exact hfn ds (by rw [hlen.2]; simp)
  have hpp : ∀ t ∈ f.params.toList, P.readableRec t = true ∧ t < P.types.size := fun t ht => by
    simpa using List.all_eq_true.1 hp t ht
  refine ⟨ds, [], p ++ [], [], p, [], hW0, ?_, ?_, ?_, hbel.frame _, fun h => by cases h⟩
  · rw [e1, hr]; exact trodAll_mk1 (shut_bool hb true)
  · rw [e1]
    exact trodAll_stays hl hpp hA (fun x hx => hbel.same (hlt x (by simp [hx]))) (fun x hx => by simpa using hlt x (by simp [hx]))
  · rw [e1, hv]; exact rfl

/-- The row's lifted proof out of the call's. -/
theorem lifted_true {C : Checked} {os : Os} {f : FuncId} {fn : Func} {s : ChangeSpec} {conds : List PathCond} {apart fresh handsOn : Bool} {tb : TypeId}
    (own : ownKnob C.prog.godebug = none) (started : os.Started) (noInit : C.prog.inits.idxOf? f = none) (hfunc : C.prog.funcs[f]? = some fn)
    (wit : ∃ (w : World) (tape : Tape) (i : Input), w.os = os ∧ (w.forCall tape i).Shaped C.prog ∧ i.vars = [] ∧ Input.okWide C.prog (w.forCall tape i) .any w.heap.size f i ∧
      s.pre6 enc C.prog fn conds apart (w.forCall tape i).memory i.args ∧ ({} : Assume).holds C.prog (lone (Frame.enter C.prog f i.args .normal) [] (w.forCall tape i)))
    (hl : laidOutB C.prog = true) (hp : fn.params.toList.all (fun t => C.prog.readableRec t && decide (t < C.prog.types.size)) = true) (hr : fn.resultTypes = #[tb]) (hb : C.prog.underlying tb = some .bool)
    (hv : s.vars = []) (hfn : ∀ ds : List (DataW H), ds.length = fn.params.size → s.fn H ds = { results := [.lit (.bool true)], args := ds })
    (contract : ∀ (W : World) (base : Nat) (vs : List Value), vs.length = fn.params.size → (∀ (j : Nat) t v, fn.params[j]? = some t → vs[j]? = some v → Value.okWide C.prog W .any base t v) →
      Calls C.prog f vs.toArray W fun e W' => e = .returned (.bool true) ∧ Mem W [] W') :
    ReturnsInHanded {} C os f .any (s.pre6 enc C.prog fn conds apart) (s.post enc C.prog fn apart fresh handsOn false) := by
  refine returnsInHanded_of_change own started noInit hfunc wit ?_
  intro W base args ds gs before hval hW _ _
  have hlen : args.toList.length = fn.params.size := by
    obtain ⟨p, q, hA, _⟩ := hW
    rw [(trodAll_length hA).1]; simp
  have h := contract W base args.toList hlen (fun j t v h1 h2 => hval j t v h1 (by simpa using h2))
  rw [Array.toArray_toList] at h
  exact h.mono fun e W' hh => ⟨_, hh.1, post_true hl hp hr hb hv hfn hW hh.2.below⟩

/-! Arguments of a type, by its outer form. -/
theorem u8_of_ok {w : World} {b : Nat} {e : TypeId} {v : Value} (he : P.underlying e = some (.int .u8)) (h : Cell.okWide P w .any b e v) : ∃ n : Nat, n < 256 ∧ v = .int .u8 n := by
  cases v with
  | int k n =>
    simp only [Cell.okWide, he, Cell.ok, IntKind.has] at h
    obtain ⟨rfl, h1, h2⟩ := h
    have a1 : (0 : Int) ≤ n := h1
    have a2 : n ≤ (255 : Int) := h2
    exact ⟨n.toNat, by omega, by rw [Int.toNat_of_nonneg a1]⟩
  | _ => simp [Cell.okWide, he, Cell.ok] at h
theorem i64_of_ok {w : World} {b : Nat} {e : TypeId} {v : Value} (he : P.underlying e = some (.int .i64)) (h : Cell.okWide P w .any b e v) : ∃ n : Int, v = .int .i64 n ∧ -2 ^ 63 ≤ n ∧ n < 2 ^ 63 := by
  cases v with
  | int k n =>
    simp only [Cell.okWide, he, Cell.ok, IntKind.has] at h
    obtain ⟨rfl, h1, h2⟩ := h
    have a1 : (-2 ^ 63 : Int) ≤ n := h1
    have a2 : n ≤ (2 ^ 63 - 1 : Int) := h2
    exact ⟨n, rfl, a1, by omega⟩
  | _ => simp [Cell.okWide, he, Cell.ok] at h
theorem int_of_okWide {w : World} {b : Nat} {t : TypeId} {v : Value} (he : P.underlying t = some (.int .i64)) (h : Value.okWide P w .any b t v) : ∃ n : Int, v = .int .i64 n ∧ -2 ^ 63 ≤ n ∧ n < 2 ^ 63 := by
  unfold Value.okWide at h
  rw [he] at h
  exact i64_of_ok he h
theorem u8_of_okWide {w : World} {b : Nat} {t : TypeId} {v : Value} (he : P.underlying t = some (.int .u8)) (h : Value.okWide P w .any b t v) : ∃ n : Nat, n < 256 ∧ v = .int .u8 n := by
  unfold Value.okWide at h
  rw [he] at h
  exact u8_of_ok he h

theorem bytes_key {cs : Array Value} {o : Nat} (h : ∀ i, i < 16 → ∃ n : Nat, n < 256 ∧ cs[o + i]? = some (.int .u8 n)) :
    ∃ k : Key, ∀ i, i < 16 → cs[o + i]? = some (.int .u8 (kbyte k i)) := by
  refine ⟨kof fun i => match cs[o + i]? with | some (.int _ n) => n.toNat | _ => 0, fun i hi => ?_⟩
  obtain ⟨n, hn, e⟩ := h i hi
  rw [kbyte_kof _ i hi, e]
  simp [Nat.mod_eq_of_lt hn]

theorem key_of_okWide {w : World} {b : Nat} {t e : TypeId} {v : Value} (hu : P.underlying t = some (.array 16 e)) (hc : P.cellTypes P.depth t = some (List.replicate 16 e)) (he : P.underlying e = some (.int .u8))
    (hs : P.cellsOf t = 16) (h : Value.okWide P w .any b t v) : ∃ k : Key, v = .agg (kcells k) := by
  unfold Value.okWide at h
  rw [hu] at h
  obtain ⟨cs, rfl, hsz, ts, hts, _, hcell⟩ := h
  rw [hs] at hsz
  obtain rfl : List.replicate 16 e = ts := by rw [hc] at hts; exact Option.some.inj hts
  obtain ⟨k, hk⟩ := bytes_key (cs := cs) (o := 0) fun i hi => by
    obtain ⟨u, hu1, hu2⟩ := hcell i (cs[i]'(by omega)) (by simp [hsz, hi])
    obtain rfl : e = u := by
      rw [List.length_replicate, Nat.mod_eq_of_lt hi, List.getElem?_replicate, if_pos hi] at hu1; exact Option.some.inj hu1
    obtain ⟨n, hn, e1⟩ := u8_of_ok he hu2
    exact ⟨n, hn, by rw [Nat.zero_add, Array.getElem?_eq_getElem (by omega), e1]⟩
  exact ⟨k, by rw [eq_kcells hsz fun i hi => by simpa using hk i hi]⟩

theorem pfx_of_okWide {w : World} {b : Nat} {t e i : TypeId} {fs : Array Field} {v : Value} (hu : P.underlying t = some (.struct fs)) (hc : P.cellTypes P.depth t = some (i :: i :: List.replicate 16 e)) (he : P.underlying e = some (.int .u8))
    (hi : P.underlying i = some (.int .i64)) (hs : P.cellsOf t = 18) (h : Value.okWide P w .any b t v) : ∃ p : Pfx, v = .agg (pcells p) := by
  unfold Value.okWide at h
  rw [hu] at h
  obtain ⟨cs, rfl, hsz, ts, hts, _, hcell⟩ := h
  rw [hs] at hsz
  obtain rfl : i :: i :: List.replicate 16 e = ts := by rw [hc] at hts; exact Option.some.inj hts
  obtain ⟨k, hk⟩ := bytes_key (cs := cs) (o := 2) fun j hj => by
    obtain ⟨u, hu1, hu2⟩ := hcell (2 + j) (cs[2 + j]'(by omega)) (by simp)
    obtain rfl : e = u := by
      have e2 : (2 + j) % (i :: i :: List.replicate 16 e).length = j + 2 := by
        simp only [List.length_cons, List.length_replicate]
        omega
      rw [e2] at hu1
      rw [List.getElem?_cons_succ, List.getElem?_cons_succ, List.getElem?_replicate, if_pos hj] at hu1; exact Option.some.inj hu1
    obtain ⟨n, hn, e1⟩ := u8_of_ok he hu2
    exact ⟨n, hn, by rw [Array.getElem?_eq_getElem (by omega), e1]⟩
  obtain ⟨u0, a0, b0⟩ := hcell 0 (cs[0]'(by omega)) (by simp [hsz])
  obtain ⟨u1, a1, b1⟩ := hcell 1 (cs[1]'(by omega)) (by simp [hsz])
  obtain rfl : i = u0 := by simpa using a0
  obtain rfl : i = u1 := by simpa using a1
  obtain ⟨n0, c0, -⟩ := i64_of_ok hi b0
  obtain ⟨n1, c1, -⟩ := i64_of_ok hi b1
  refine ⟨⟨n0, n1, k⟩, ?_⟩
  congr 1
  refine Array.ext_getElem? fun j => ?_
  match j with
  | 0 => rw [pcells_0, Array.getElem?_eq_getElem (by omega), c0]
  | 1 => rw [pcells_1, Array.getElem?_eq_getElem (by omega), c1]
  | j + 2 =>
    rw [Nat.add_comm j 2, pcells_k]
    rcases Nat.lt_or_ge j 16 with hj | hj
    · rw [hk j hj, kcells_get _ _ hj]
    · rw [kcells_none _ _ hj]; simp; omega

theorem list1 {α : Type} {l : List α} (h : l.length = 1) : ∃ a, l = [a] := match l, h with | [a], _ => ⟨a, rfl⟩
theorem list2 {α : Type} {l : List α} (h : l.length = 2) : ∃ a b, l = [a, b] := match l, h with | [a, b], _ => ⟨a, b, rfl⟩
theorem list3 {α : Type} {l : List α} (h : l.length = 3) : ∃ a b c, l = [a, b, c] := match l, h with | [a, b, c], _ => ⟨a, b, c, rfl⟩
theorem list4 {α : Type} {l : List α} (h : l.length = 4) : ∃ a b c d, l = [a, b, c, d] := match l, h with | [a, b, c, d], _ => ⟨a, b, c, d, rfl⟩
theorem list5 {α : Type} {l : List α} (h : l.length = 5) : ∃ a b c d e, l = [a, b, c, d, e] := match l, h with | [a, b, c, d, e], _ => ⟨a, b, c, d, e, rfl⟩

theorem list6 {α : Type} {l : List α} (h : l.length = 6) : ∃ a b c d e f, l = [a, b, c, d, e, f] := match l, h with | [a, b, c, d, e, f], _ => ⟨a, b, c, d, e, f, rfl⟩
theorem list0 {α : Type} {l : List α} (h : l.length = 0) : l = [] := List.length_eq_zero_iff.1 h
theorem u8_of_okWide2 {w : World} {b : Nat} {t : TypeId} {v : Value} (he : P.underlying t = some (.int .u8)) (h : Value.okWide P w .any b t v) : ∃ n : UInt8, v = .int .u8 n.toNat := by
  obtain ⟨n, hn, rfl⟩ := u8_of_okWide he h
  exact ⟨UInt8.ofNat n, by simp; omega⟩
theorem u16_of_okWide2 {w : World} {b : Nat} {t : TypeId} {v : Value} (he : P.underlying t = some (.int .u16)) (h : Value.okWide P w .any b t v) : ∃ n : UInt16, v = .int .u16 n.toNat := by
  unfold Value.okWide at h
  rw [he] at h
  cases v with
  | int k n =>
    simp only [Cell.okWide, he, Cell.ok, IntKind.has] at h
    obtain ⟨rfl, h1, h2⟩ := h
    have a1 : (0 : Int) ≤ n := h1
    have a2 : n ≤ (65535 : Int) := h2
    exact ⟨UInt16.ofNat n.toNat, by simp; omega⟩
  | _ => simp [Cell.okWide, he, Cell.ok] at h
theorem u32_of_okWide2 {w : World} {b : Nat} {t : TypeId} {v : Value} (he : P.underlying t = some (.int .u32)) (h : Value.okWide P w .any b t v) : ∃ n : UInt32, v = .int .u32 n.toNat := by
  unfold Value.okWide at h
  rw [he] at h
  cases v with
  | int k n =>
    simp only [Cell.okWide, he, Cell.ok, IntKind.has] at h
    obtain ⟨rfl, h1, h2⟩ := h
    have a1 : (0 : Int) ≤ n := h1
    have a2 : n ≤ (4294967295 : Int) := h2
    exact ⟨UInt32.ofNat n.toNat, by simp; omega⟩
  | _ => simp [Cell.okWide, he, Cell.ok] at h
end Go.Eng
