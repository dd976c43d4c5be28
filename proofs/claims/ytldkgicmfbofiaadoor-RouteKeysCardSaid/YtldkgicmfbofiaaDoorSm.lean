/- Slices that the call itself makes: made, appended to, written. -/
import Derived.Test.YtldkgicmfbofiaaDoorSl
import Derived.Laws.AppendOwn
set_option linter.unusedSimpArgs false
set_option linter.unusedVariables false
namespace Go.Eng
open Go.RowKit

theorem set_perm (x : Ent) : ∀ (L : List Ent) (i : Nat), i < L.length → (x :: L.eraseIdx i).Perm (L.set i x)
  | [], _, h => by simp at h
  | _ :: _, 0, _ => by simp
  | a :: L, i + 1, h => by
    simp only [List.eraseIdx_cons_succ, List.set_cons_succ]
    exact (List.Perm.swap a x _).trans ((set_perm x L i (by simpa using h)).cons a)

/-- Entry i forgotten, and one that was made anew put there. -/
theorem Mem.swap {w0 : World} {L : List Ent} {w w' : World} {E : Ent} (h : Mem w0 L w) {i : Nat} (hi : i < L.length) (h' : Mem w [E] w') : Mem w0 (L.set i E) w' :=
  ((h.call h').sub (L' := E :: L.eraseIdx i) ((List.eraseIdx_sublist L i).cons_cons E)).perm (set_perm E L i hi)
theorem At.lt {L : List Ent} {e : Ent} {i : Nat} (h : L[i]? = some e) : i < L.length := (List.getElem?_eq_some_iff.1 h).1

/-- A slice's type, and its elements'. -/
class SlT (P : Program) (t : TypeId) (e : outParam TypeId) (c : outParam Nat) (by' : outParam Nat) : Prop where
  und : P.underlying t = some (.slice e)
  row : (P.info? e).map (fun i => (i.zero.map (·.cells.size), i.size, i.bytes)) = some (some c, c, by')
theorem SlT.info {P : Program} {t e : TypeId} {c by' : Nat} (h : SlT P t e c by') : ∃ i z, P.info? e = some i ∧ i.zero = some z ∧ i.size = c ∧ i.bytes = by' ∧ z.cells.size = c := by
  have h := h.row
  cases hi : P.info? e with
  | none => simp [hi] at h
  | some i =>
    cases hz : i.zero with
    | none => simp [hi, hz] at h
    | some z => simp [hi, hz] at h; exact ⟨i, z, rfl, hz, h.2.1, h.2.2, h.1⟩

theorem cells_over {cs vs : Array Value} {o j : Nat} (ho : o + vs.size ≤ cs.size) : (over cs o vs)[j]? = if o ≤ j ∧ j < o + vs.size then vs[j - o]? else cs[j]? := by
  unfold over
  simp only [List.getElem?_toArray]
  rw [List.append_assoc, List.getElem?_append]
  have e1 : (List.take o cs.toList).length = o := by simp; omega
  rw [e1]
  by_cases h1 : j < o
  · rw [if_pos h1, if_neg (by omega), List.getElem?_take, if_pos h1]; simp
  · rw [if_neg h1, List.getElem?_append]
    by_cases h2 : j - o < vs.toList.length
    · rw [if_pos h2, if_pos (by simp at h2; omega)]; simp
    · rw [if_neg h2, if_neg (by simp at h2; omega), List.getElem?_drop]
      simp at h2 ⊢
      congr 1; omega
theorem over_size {cs vs : Array Value} {o : Nat} (ho : o + vs.size ≤ cs.size) : (over cs o vs).size = cs.size := by
  simp [over]; omega

theorem run_storeCells_free {P : Program} (g o : Nat) (t : TypeId) (fz : Nat × Nat) : ∀ (vs : List Value) (i : Nat) (cur : Array Value) (w : World), w.heap[g]? = some (.cells cur t fz) → Free cur.size fz → o + i + vs.length ≤ cur.size → (∀ v ∈ vs, v.oneCell' = true) →
    (storeCells ⟨g, o, none⟩ vs i).run P w = .ok () (w.setRow g (cur.toList.take (o + i) ++ vs ++ cur.toList.drop (o + i + vs.length)).toArray)
  | [], i, cur, w, hg, _, _, _ => by
    simp only [storeCells, List.append_nil, List.length_nil, Nat.add_zero, List.take_append_drop, Array.toArray_toList]
    rw [setRow_self w g cur t fz hg]
    rfl
  | v :: rest, i, cur, w, hg, hf, hl, h1 => by
    have hi : o + i < cur.size := by simp at hl; omega
    have hadd : (⟨g, o, none⟩ : Addr).add i = ⟨g, o + i, none⟩ := by unfold Addr.add; split <;> simp_all
    have hcell : w.cell? ⟨g, o + i, none⟩ = some cur[o + i] := by simp [World.cell?, hg, hi]
    have hfro : w.frozen? ⟨g, o + i, none⟩ = false := by
      have := hf (o + i) hi
      obtain ⟨a, b⟩ := fz
      simp only [World.frozen?, hg]
      simp only [Bool.and_eq_false_iff, decide_eq_false_iff_not]
      omega
    have hst : (store ((⟨g, o, none⟩ : Addr).add i) v).run P w = .ok () (w.setRow g (cur.setIfInBounds (o + i) v)) := by
      rw [hadd, run_store P w _ v _ (h1 v (by simp)), hcell]
      simp [hfro, setCell_eq_setRow w g (o + i) cur t fz v hg]
    have ih := run_storeCells_free (P := P) g o t fz rest (i + 1) (cur.setIfInBounds (o + i) v) (w.setRow g (cur.setIfInBounds (o + i) v)) (setRow_heap w g cur _ t _ hg) (by simpa using hf) (by simp at hl ⊢; omega) (fun x hx => h1 x (by simp [hx]))
    simp only [storeCells, Sem.run_bind, hst, Result.andThen_ok, ih, setRow_setRow]
    congr 3
    have e := list_seg_step cur.toList (o + i) v rest (by simp at hl ⊢; omega)
    simpa [Array.toList_setIfInBounds, Nat.add_assoc] using e

section
variable {α : Type} {enc : α → Array Value} {c : Nat}
/-- The rows, one behind the other. -/
def flatR (enc : α → Array Value) (xs : List α) : List Value := xs.flatMap fun x => (enc x).toList
theorem flatR_length [he : Enc enc c] : ∀ xs : List α, (flatR enc xs).length = xs.length * c
  | [] => by simp [flatR]
  | x :: xs => by
    have := flatR_length xs
    simp only [flatR, List.flatMap_cons, List.length_append] at this ⊢
    rw [this, Array.length_toList, he.size, List.length_cons, Nat.add_mul]; omega
theorem flatR_get [he : Enc enc c] : ∀ (xs : List α) (i : Nat) (x : α), xs[i]? = some x → ∀ j, j < c → (flatR enc xs)[i * c + j]? = (enc x)[j]?
  | [], i, x, h, _, _ => by simp at h
  | y :: xs, 0, x, h, j, hj => by
    obtain rfl : y = x := by simpa using h
    simp only [flatR, List.flatMap_cons, Nat.zero_mul, Nat.zero_add]
    rw [List.getElem?_append_left (by rw [Array.length_toList, he.size]; exact hj)]; simp
  | y :: xs, i + 1, x, h, j, hj => by
    have := flatR_get xs i x (by simpa using h) j hj
    simp only [flatR, List.flatMap_cons] at this ⊢
    rw [List.getElem?_append_right (by rw [Array.length_toList, he.size, Nat.add_mul]; omega), Array.length_toList, he.size]
    rw [← this]; congr 1; rw [Nat.add_mul]; omega
theorem flatR_div (hc : 0 < c) [he : Enc enc c] {xs : List α} {k : Nat} {v : Value} (h : (flatR enc xs)[k]? = some v) : ∃ x, xs[k / c]? = some x ∧ (enc x)[k % c]? = some v := by
  have hk : k < xs.length * c := by
    have := (List.getElem?_eq_some_iff.1 h).1
    rwa [flatR_length] at this
  have hd : k / c < xs.length := Nat.div_lt_of_lt_mul (by rwa [Nat.mul_comm])
  refine ⟨xs[k / c], by simp [hd], ?_⟩
  rw [← flatR_get xs (k / c) xs[k / c] (by simp [hd]) (k % c) (Nat.mod_lt _ hc), ← h]
  congr 1; rw [Nat.mul_comm]; exact Nat.div_add_mod k c
theorem flatR_one [he : Enc enc c] (xs : List α) : ∀ u ∈ flatR enc xs, u.oneCell' = true := fun u hu => by
  obtain ⟨x, _, hx⟩ := List.mem_flatMap.1 hu
  exact (Array.all_eq_true_iff_forall_mem.1 (he.one x)) u (by simpa using hx)

/-- A row of cells that bears a slice's rows from o on. -/
theorem rows_of {h : Nat → Option Obj} {s : Sv} {xs : List α} {cs : Array Value} {T : TypeId} {fz : Nat × Nat} (ok : s.Ok) (hl : s.len = xs.length) (hb : h s.b = some (.cells cs T fz))
    (hc : ∀ i x, xs[i]? = some x → ∀ j, j < c → cs[s.o + i * c + j]? = (enc x)[j]?) : Lies enc c h s xs :=
  ⟨ok, hl, fun i x hi j hj => by unfold cellH; rw [hb]; exact hc i x hi j hj⟩

/-- What an append's second argument yields, out of the slice that it is. -/
theorem src_rows {P : Program} {tx e' : TypeId} (hk : P.underlying tx = some (.slice e')) (hc : 0 < c) [he : Enc enc c] {w : World} {s : Sv} {xs : List α} (r : Lies enc c (hp w) s xs) : Src P c tx s.val xs.length (flatR enc xs) w := by
  cases hn : s.nil with
  | true =>
    have : xs = [] := by have := (r.ok.nil hn).1; rw [r.len] at this; exact List.length_eq_zero_iff.1 this
    subst this
    rw [Sv.val_nil hn]
    exact Src.ofNil w hk 0
  | false =>
    rw [Sv.val_some hn, r.len]
    refine Src.ofSlice w hk _ _ _ _ (flatR_length xs) (fun j u hu => ?_) (flatR_one xs)
    obtain ⟨x, hx, hu'⟩ := flatR_div hc hu
    have hsp := r.ok.sp (by have h1 := Nat.lt_of_le_of_lt (Nat.zero_le _) (List.getElem?_eq_some_iff.1 hx).1; have := r.len; have := r.ok.le; omega)
    rw [hsp, Addr.add_none, cell_hp, ← hu', ← r.row _ x hx (j % c) (Nat.mod_lt _ hc)]
    congr 1
    have := Nat.div_add_mod j c
    rw [Nat.mul_comm] at this; omega

/-- append, to a slice of the call's own. -/
theorem append_own {P : Program} {t tx ty e : TypeId} {by' : Nat} (ht : SlT P t e c by') (hc : 0 < c) [he : Enc enc c] {w0 w : World} {L : List Ent} {i : Nat} {s : Sv} {xs ys : List α} {x : Value}
    (hw : Mem w0 L w) (hi : L[i]? = some (own enc c s xs)) (hs : Src P c tx x ys.length (flatR enc ys) w) (hb : (xs.length + ys.length) * by' ≤ 140737488355328) (h63 : xs.length + ys.length ≤ 140737488355328) :
    ∃ s' w', (Builtin.append_ #[t, tx] ty #[s.val, x]).run P w = .ok (Sv.val s') w' ∧ s'.Ok ∧ s'.len = (xs ++ ys).length ∧ Mem w0 (L.set i (own enc c s' (xs ++ ys))) w' := by
  obtain ⟨r, hrow⟩ := hw.get hi
  obtain ⟨i', z, hi1, hi2, hi3, hi4, hzc⟩ := ht.info
  subst hi3 hi4
  have hlen := r.len
  have hle := r.ok.le
  have grow : s.cap < s.len + ys.length → ∀ (base : Option Addr), s.val = .slice base s.len s.cap → (Builtin.firstCells i'.size s.len (.slice base s.len s.cap)).run P w.drew = .ok (flatR enc xs).toArray w.drew →
      ∃ s' w', (Builtin.append_ #[t, tx] ty #[s.val, x]).run P w = .ok (Sv.val s') w' ∧ s'.Ok ∧ s'.len = (xs ++ ys).length ∧ Mem w0 (L.set i (own enc i'.size s' (xs ++ ys))) w' := by
    intro hg base hv hold
    have hcap := nextslicecap_le hg
    have hfit : Builtin.nextslicecap (s.len + ys.length) s.cap * i'.bytes ≤ 281474976710656 := by
      have h2 : Builtin.nextslicecap (s.len + ys.length) s.cap * i'.bytes ≤ 2 * (s.len + ys.length) * i'.bytes := Nat.mul_le_mul_right _ hcap
      rw [Nat.mul_assoc, hlen] at h2
      rw [hlen]; omega
    have hr := run_append_grow_src w t tx ty e i' z ht.und hi1 hi2 base s.len s.cap (flatR enc xs) hold x ys.length (flatR enc ys) hs hg (by omega) hfit
    have hcge := grownCap_ge w (s.len + ys.length) s.cap e
    generalize grownCap w (s.len + ys.length) s.cap e = C at hr hcge
    refine ⟨⟨false, w.heap.size, 0, s.len + ys.length, C, none⟩, _, by rw [hv, hr]; rfl, ⟨(fun h => by cases h), hcge, by simp only; omega, fun _ => rfl⟩, by simp [hlen], hw.swap (At.lt hi) ?_⟩
    have hm := (Mem.init w).drew.alloc ((flatR enc xs ++ flatR enc ys).toArray ++ Builtin.zeroCells z.cells (C - (s.len + ys.length))) e
    refine ⟨hm.below, fun q hq => ?_, fun q hq k hk => ?_, by simp⟩
    · obtain rfl := List.mem_singleton.1 hq
      have hblk : hp (w.drew.alloc (.cells ((flatR enc xs ++ flatR enc ys).toArray ++ Builtin.zeroCells z.cells (C - (s.len + ys.length))) e)) w.heap.size = some (.cells ((flatR enc xs ++ flatR enc ys).toArray ++ Builtin.zeroCells z.cells (C - (s.len + ys.length))) e (0, 0)) := Below.heap_new w.drew _
      have hfl : flatR enc xs ++ flatR enc ys = flatR enc (xs ++ ys) := by simp [flatR]
      rw [hfl] at hblk
      rw [hfl]
      have hsz : (flatR enc (xs ++ ys)).length = (xs.length + ys.length) * i'.size := by rw [flatR_length]; simp
      refine ⟨rows_of (enc := enc) (c := i'.size) (xs := xs ++ ys) ⟨(fun h => by cases h), hcge, by simp only; omega, fun _ => rfl⟩ (by simp [hlen]) hblk fun k y hy j hj => ?_, fun _ => ⟨rfl, _, _, _, hblk, ?_, free_00 _, fun _ => rfl⟩⟩
      · have hg' := flatR_get (enc := enc) (xs ++ ys) k y hy j hj
        have hlt : k * i'.size + j < (flatR enc (xs ++ ys)).length := by
          rw [hsz]
          have h1 := (List.getElem?_eq_some_iff.1 hy).1
          rw [List.length_append] at h1
          calc k * i'.size + j < k * i'.size + i'.size := by omega
            _ = (k + 1) * i'.size := by rw [Nat.add_mul]; omega
            _ ≤ _ := Nat.mul_le_mul_right _ h1
        simp only [Nat.zero_add]
        rw [← hg', Array.getElem?_append_left (by simpa using hlt)]; simp
      · have h3 := size_zeroCells z.cells (C - (s.len + ys.length))
        rw [hzc] at h3
        simp only [Array.size_append, List.size_toArray, h3, hsz, Nat.zero_add]
        rw [← Nat.add_mul, hlen]
        refine Nat.mul_le_mul_right _ ?_
        omega
    · obtain rfl := List.mem_singleton.1 hq
      obtain rfl : k = w.heap.size := hk.2
      simp
  cases hn : s.nil with
  | true =>
    have h0 := r.ok.nil hn
    have hx0 : xs = [] := by rw [hlen] at h0; exact List.length_eq_zero_iff.1 h0.1
    subst hx0
    by_cases hy : ys.length = 0
    · have hy0 : ys = [] := List.length_eq_zero_iff.1 hy
      subst hy0
      refine ⟨s, w, ?_, r.ok, by simpa using hlen, ?_⟩
      · rw [Sv.val_nil hn]
        have hcl := hs.cells
        simp only [List.length_nil] at hcl
        rcases hs.kind with ⟨e', hk⟩ | hk <;> simp [Builtin.append_, run_underlying ht.und, run_underlying hk, sizeOf, typeInfo, hi1, hs.len, hcl]
      · have : L.set i (own enc i'.size s ([] ++ [])) = L := by
          rw [List.append_nil]
          refine List.ext_getElem? fun k => ?_
          rw [List.getElem?_set]
          by_cases hk : i = k
          · subst hk; rw [if_pos rfl, hi, if_pos (At.lt hi)]
          · rw [if_neg hk]
        rw [this]; exact hw
    · refine grow (by omega) .none (by rw [Sv.val_nil hn, h0.1, h0.2]) ?_
      rw [h0.1, h0.2]
      exact run_firstCells_none w.drew _ _ _ _
  | false =>
    obtain ⟨hsp, cs, T, fz, hblk, hsz, hfz, hf0⟩ := hrow hn
    by_cases hroom : s.len + ys.length ≤ s.cap
    · have hmul : (s.len + ys.length) * i'.size ≤ s.cap * i'.size := Nat.mul_le_mul_right _ hroom
      have hfl : (flatR enc ys).length = ys.length * i'.size := flatR_length ys
      have hfit : s.o + s.len * i'.size + (flatR enc ys).toArray.size ≤ cs.size := by
        rw [List.size_toArray, hfl]; rw [Nat.add_mul] at hmul; omega
      have hst := run_storeCells_free (P := P) s.b (s.o + s.len * i'.size) T fz (flatR enc ys) 0 cs w hblk hfz (by simpa using hfit) hs.one
      have hst' : (storeCells ⟨s.b, s.o + s.len * i'.size, none⟩ (flatR enc ys)).run P w = .ok () (w.setRow s.b (over cs (s.o + s.len * i'.size) (flatR enc ys).toArray)) := by
        simpa [over] using hst
      refine ⟨{ s with len := s.len + ys.length }, w.setRow s.b (over cs (s.o + s.len * i'.size) (flatR enc ys).toArray), ?_, ⟨(fun h => by rw [hn] at h; cases h), hroom, by simp only; omega, r.ok.sp⟩, by simp [hlen], ?_⟩
      · have hv' : ({ s with len := s.len + ys.length } : Sv).val = .slice (some ⟨s.b, s.o, s.sp⟩) (s.len + ys.length) s.cap := Sv.val_some (s := { s with len := s.len + ys.length }) hn
        rw [Sv.val_some hn, hv', hsp]
        rcases hs.kind with ⟨e', hk⟩ | hk <;> simp [Builtin.append_, run_underlying ht.und, run_underlying hk, sizeOf, typeInfo, hi1, hs.len, hroom, hs.cells, Addr.add_none, hst']
      · have hb' : hp (w.setRow s.b (over cs (s.o + s.len * i'.size) (flatR enc ys).toArray)) s.b = some (.cells (over cs (s.o + s.len * i'.size) (flatR enc ys).toArray) T fz) := setRow_heap w s.b cs _ T fz hblk
        refine hw.change hi (fun k hk => hk) (fun k hk => ?_) (by simp [World.setRow]) ⟨rfl, rfl, rfl⟩ ⟨rows_of ⟨(fun h => by rw [hn] at h; cases h), hroom, by simp only; omega, r.ok.sp⟩ (by simp [hlen]) hb' fun k y hy j hj => ?_, fun _ => ⟨hsp, _, _, _, hb', ?_, by rw [over_size hfit]; exact hfz, hf0⟩⟩
        · exact setRow_other w s.b k _ (fun e => hk ⟨hn, e⟩)
        · rw [cells_over hfit]
          by_cases hk : k < xs.length
          · rw [if_neg, ← r.row k y (by rw [List.getElem?_append_left hk] at hy; exact hy) j hj]
            · unfold cellH; rw [hblk]
            · have : (k + 1) * i'.size ≤ s.len * i'.size := Nat.mul_le_mul_right _ (by omega)
              rw [Nat.add_mul] at this
              intro h; have := h.1; simp only at this; omega
          · rw [List.getElem?_append_right (by omega)] at hy
            have hg' := flatR_get (enc := enc) ys (k - xs.length) y hy j hj
            have hk2 : s.len * i'.size + (k - xs.length) * i'.size = k * i'.size := by rw [← Nat.add_mul]; congr 1; omega
            have hlt : (k - xs.length + 1) * i'.size ≤ ys.length * i'.size := Nat.mul_le_mul_right _ (by have := (List.getElem?_eq_some_iff.1 hy).1; omega)
            rw [Nat.add_mul] at hlt
            rw [if_pos ⟨by simp only; omega, by rw [List.size_toArray, hfl]; simp only; omega⟩, ← hg']
            simp only [List.getElem?_toArray]
            congr 1; omega
        · rw [over_size hfit]; exact hsz
    · refine grow (by omega) _ (by rw [Sv.val_some hn, hsp]) ?_
      refine run_firstCells_some w.drew _ _ _ _ _ _ (by rw [flatR_length, hlen]) fun j u hu => ?_
      obtain ⟨y, hy, hu'⟩ := flatR_div hc hu
      have := r.row _ y hy (j % i'.size) (Nat.mod_lt _ hc)
      rw [hu'] at this
      rw [Addr.add_none]
      show w.cell? _ = _
      rw [cell_hp, ← this]
      congr 1
      have h9 := Nat.div_add_mod j i'.size
      rw [Nat.mul_comm] at h9; omega

theorem foldl_over (off : Nat) : ∀ (vs : List Value) (k : Nat) (cs : Array Value), off + k + vs.length ≤ cs.size →
    (vs.zipIdx k).foldl (fun cs (p : Value × Nat) => cs.setIfInBounds (off + p.2) p.1) cs = (cs.toList.take (off + k) ++ vs ++ cs.toList.drop (off + k + vs.length)).toArray
  | [], k, cs, _ => by simp
  | v :: vs, k, cs, h => by
    simp only [List.zipIdx_cons, List.foldl_cons, List.length_cons] at h ⊢
    rw [foldl_over off vs (k + 1) _ (by simp; omega)]
    apply Array.ext'
    have e1 : (cs.setIfInBounds (off + k) v).toList = cs.toList.set (off + k) v := by simp
    rw [e1]
    have hlt : off + k < cs.toList.length := by simp; omega
    have e2 : (cs.toList.set (off + k) v).take (off + (k + 1)) = cs.toList.take (off + k) ++ [v] := by
      rw [← Nat.add_assoc, List.take_add_one, List.take_set_of_le (Nat.le_refl _), List.getElem?_set_self hlt]
      rfl
    have e3 : (cs.toList.set (off + k) v).drop (off + (k + 1) + vs.length) = cs.toList.drop (off + k + (vs.length + 1)) := by
      rw [List.drop_set_of_lt (by omega)]; congr 1; omega
    rw [e2, e3]; simp

def idx (vals : List Value) (i : Nat) : List (Nat × Value) := (vals.zipIdx i).map fun p => (p.2, p.1)

theorem fill_rows [he : Enc enc c] : ∀ (xs : List α) (vals : List Value) (i : Nat) (cs : Array Value), vals.map Value.cells = xs.map enc → i * c + xs.length * c ≤ cs.size →
    Instr.fill (fun i => some (i * c, c)) cs (idx vals i) = some (cs.toList.take (i * c) ++ flatR enc xs ++ cs.toList.drop (i * c + xs.length * c)).toArray
  | [], [], i, cs, _, _ => by simp [idx, Instr.fill, flatR]
  | [], _ :: _, _, _, h, _ => by simp at h
  | _ :: _, [], _, _, h, _ => by simp at h
  | x :: xs, v :: vals, i, cs, h, hs => by
    simp only [List.map_cons, List.cons.injEq] at h
    obtain ⟨h1, h2⟩ := h
    have hsz : v.cells.size = c := by rw [h1]; exact he.size x
    rw [List.length_cons, Nat.add_mul, Nat.one_mul] at hs
    simp only [idx, List.zipIdx_cons, List.map_cons, Instr.fill, hsz]
    rw [if_neg (by simp; omega)]
    have ef : v.cells.zipIdx.foldl (fun cs (p : Value × Nat) => cs.setIfInBounds (i * c + p.2) p.1) cs = (cs.toList.take (i * c) ++ v.cells.toList ++ cs.toList.drop (i * c + c)).toArray := by
      have := foldl_over (i * c) v.cells.toList 0 cs (by simp; omega)
      simp only [Nat.add_zero] at this
      rw [← Array.foldl_toList, Array.toList_zipIdx, this]
      simp [hsz]
    have ef' : (v.cells.zipIdx.foldl (fun cs (x : Value × Nat) => match x with | (c', j) => cs.setIfInBounds (i * c + j) c') cs) = (cs.toList.take (i * c) ++ v.cells.toList ++ cs.toList.drop (i * c + c)).toArray := ef
    rw [ef']
    have hl1 : (cs.toList.take (i * c) ++ v.cells.toList).length = (i + 1) * c := by simp [hsz, Nat.add_mul]; omega
    have := fill_rows xs vals (i + 1) (cs.toList.take (i * c) ++ v.cells.toList ++ cs.toList.drop (i * c + c)).toArray h2 (by simp [hsz, Nat.add_mul]; omega)
    unfold idx at this
    rw [this]
    congr 1
    apply Array.ext'

    rw [List.take_left' hl1, ← List.drop_drop (j := (i + 1) * c) (i := xs.length * c), List.drop_left' hl1]
    simp only [flatR, List.flatMap_cons, h1, List.append_assoc, List.append_cancel_left_eq]
    rw [List.drop_drop, List.length_cons, show i * c + c + xs.length * c = i * c + (xs.length + 1) * c by rw [Nat.add_mul]; omega]
end

section
variable {P : Program} {N : Fra} {w0 : World} {env : Env} {L : List Ent} {l : List Oper} {Q : Exit → Act → World → Prop} {rest : List Oper} {d : Option Tmp} {ty : TypeId} {ps : String} {af : Array Edge}
variable {α : Type} {enc : α → Array Value} {c : Nat} {s : Sv} {xs ys : List α}

/-- The slice s is the call's own. -/
class Owns (L : List Ent) (s : Sv) {α : outParam Type} (enc : outParam (α → Array Value)) (c : outParam Nat) (xs : outParam (List α)) (i : outParam Nat) : Prop where
  h : L[i]? = some (own enc c s xs)
instance (priority := high) Owns.here {L : List Ent} : Owns (own enc c s xs :: L) s enc c xs 0 := ⟨rfl⟩
instance Owns.there {L : List Ent} {e : Ent} {i : Nat} [q : Owns L s enc c xs i] : Owns (e :: L) s enc c xs (i + 1) := ⟨by simpa using q.h⟩
theorem Owns.holds {i : Nat} (q : Owns L s enc c xs i) : Holds w0 L enc c s xs := fun _ hw => (hw.get q.h).1

theorem Mem.nilOwn {w : World} (enc : α → Array Value) (c : Nat) (h : Mem w0 L w) : Mem w0 (own enc c Sv.none [] :: L) w :=
  h.call (E := [own enc c Sv.none []]) ⟨Below.refl _ _, fun e he => by
    obtain rfl := List.mem_singleton.1 he
    exact ⟨Lies.nil enc c _, (fun h => by cases h)⟩, fun e he k hk => by
    obtain rfl := List.mem_singleton.1 he
    exact absurd hk.1 (by simp [Sv.none]), by simp⟩

theorem sq_append {t tx e : TypeId} {x y : Operand} {yv : Value} {by' i : Nat} [ht : SlT P t e c by'] [he : Enc enc c] (hx : ev env x = some s.val) (hy : ev env y = some yv) [q : Owns L s enc c xs i] (hc : 0 < c)
    (hs : ∀ w, Mem w0 L w → Src P c tx yv ys.length (flatR enc ys) w) (hb : (xs.length + ys.length) * by' ≤ 140737488355328) (h63 : xs.length + ys.length ≤ 140737488355328) {L' : Sv → List Ent} [hu : ∀ s', Upd L i (own enc c s' (xs ++ ys)) (L' s')]
    (hk : ∀ s' : Sv, s'.Ok → s'.len = (xs ++ ys).length → Sq P N w0 l Q rest (putE env d s'.val) (L' s')) (hd : dstOk N d = true := by rfl) :
    Sq P N w0 l Q (⟨d, .call { callee := .builtin .append, args := #[x, y], argTypes := #[t, tx] }, ty, ps, af, none⟩ :: rest) env L :=
  sq_run rfl hd fun a w ha hw => by
    obtain ⟨s', w', h1, h2, h3, h4⟩ := append_own (ty := ty) ht hc hw q.h (hs w hw) hb h63
    refine ⟨s'.val, w', L' s', ?_, by rw [← (hu s').h]; exact h4, hk s' h2 h3⟩
    simp [execOp, ha.ev hx, ha.ev hy, resolve, invoke, builtin, h1, Result.andThen]

/-- A row of cells that the call has just laid. -/
theorem mem_new {w : World} {b : Nat} {cs : Array Value} {e : TypeId} (hb : b = w.heap.size) (n cap : Nat) (hn : n = xs.length) (hle : n ≤ cap) (h63 : n ≤ 140737488355328) (hsz : cap * c ≤ cs.size) (hc : ∀ i x, xs[i]? = some x → ∀ j, j < c → cs[i * c + j]? = (enc x)[j]?) :
    Mem w [own enc c ⟨false, b, 0, n, cap, none⟩ xs] (w.alloc (.cells cs e)) := by
  subst hb
  have hm := (Mem.init w).alloc cs e
  have hblk : hp (w.alloc (.cells cs e)) w.heap.size = some (.cells cs e (0, 0)) := Below.heap_new w _
  refine ⟨hm.below, fun q hq => ?_, fun q hq k hk => ?_, by simp⟩
  · obtain rfl := List.mem_singleton.1 hq
    exact ⟨rows_of ⟨(fun h => by cases h), hle, h63, fun _ => rfl⟩ hn hblk (by simpa using hc), fun _ => ⟨rfl, _, _, _, hblk, by simpa using hsz, free_00 _, fun _ => rfl⟩⟩
  · obtain rfl := List.mem_singleton.1 hq
    obtain rfl : k = w.heap.size := hk.2
    simp

theorem len24 {n c : Nat} (h0 : 0 < n * c) (h : n * c ≤ 16777216) : n ≤ 140737488355328 := by
  have : n * 1 ≤ n * c := Nat.mul_le_mul_left _ (by rcases Nat.eq_zero_or_pos c with rfl | h'; · simp at h0
                                                    · exact h')
  omega

theorem run_buildSlice {t e : TypeId} {by' : Nat} (ht : SlT P t e c by') [he : Enc enc c] {vals : List Value} (hv : vals.map Value.cells = xs.map enc) (hc : 0 < xs.length * c) (h24 : xs.length * c ≤ 16777216) (w : World) :
    (Instr.buildSlice t xs.length (idx vals 0).toArray).run P w = .ok (.slice (some ⟨w.heap.size, 0, none⟩) xs.length xs.length) (w.alloc (.cells (flatR enc xs).toArray e)) := by
  obtain ⟨i', z, hi1, hi2, hi3, hi4, hzc⟩ := ht.info
  subst hi3
  have hf := fill_rows (enc := enc) (c := i'.size) xs vals 0 ((Array.range (xs.length * i'.size)).map (z.cells[· % z.cells.size]!)) hv (by simp)
  have hdrop : ((Array.range (xs.length * i'.size)).map (z.cells[· % z.cells.size]!)).toList.drop (0 * i'.size + xs.length * i'.size) = [] := by simp
  rw [hdrop] at hf
  simp only [Nat.zero_mul, List.take_zero, List.nil_append, List.append_nil] at hf
  have n1 : ¬ xs.length * i'.size > 2 ^ 24 := by omega
  have n2 : ¬ xs.length * i'.size = 0 := by omega
  simp [Instr.buildSlice, run_underlying ht.und, sizeOf, typeInfo, zeroValue, hi1, hi2, n1, n2, hf, newRow, newObj, Sem.run, Result.andThen]

theorem sq_buildSlice {t e : TypeId} {by' n : Nat} [ht : SlT P t e c by'] [he : Enc enc c] {ops : List (Nat × Operand)} {vals : List Value} (xs : List α) (hx : evp env ops = some (idx vals 0)) (hv : vals.map Value.cells = xs.map enc) (hn : xs.length = n) (hc : 0 < n * c) (h24 : n * c ≤ 16777216)
    (hk : ∀ b, Sq P N w0 l Q rest (putE env d (Sv.val ⟨false, b, 0, n, n, none⟩)) (own enc c ⟨false, b, 0, n, n, none⟩ xs :: L)) (hd : dstOk N d = true := by rfl) :
    Sq P N w0 l Q (⟨d, .buildSlice t n ops.toArray, ty, ps, af, none⟩ :: rest) env L :=
  sq_run rfl hd fun a w ha hw => by
    subst hn
    have e1 : (ops.toArray.map fun (p : Nat × Operand) => match p with | (i, x) => (i, a.eval x)) = (idx vals 0).toArray := by
      rw [← ha.evp hx]; simp
    refine ⟨_, _, _, ?_, hw.call (mem_new (enc := enc) (c := c) (xs := xs) (cs := (flatR enc xs).toArray) (e := e) rfl xs.length xs.length rfl (Nat.le_refl _) (len24 hc h24) (by simp [flatR_length]) fun i x hx j hj => by rw [← flatR_get (enc := enc) xs i x hx j hj]; simp), hk _⟩
    simp only [execOp, e1, Sem.run_bind, run_buildSlice ht hv hc h24 w, Result.andThen, Sem.run_pure]; rfl
theorem fr_buildSlice {Lq : List Ent} {n' j : Nat} {js : List Nat} {t e : TypeId} {by' n : Nat} {ops : List (Nat × Operand)} (hj : l[j]? = some ⟨d, .buildSlice t n ops.toArray, ty, ps, af, none⟩) [ht : SlT P t e c by'] [he : Enc enc c] {vals : List Value} (xs : List α) (hx : evp env ops = some (idx vals 0)) (hv : vals.map Value.cells = xs.map enc) (hn : xs.length = n) (hc : 0 < n * c) (h24 : n * c ≤ 16777216)
    (hk : ∀ b, Fr P N w0 Lq l n' Q js (putE env d (Sv.val ⟨false, b, 0, n, n, none⟩)) (own enc c ⟨false, b, 0, n, n, none⟩ xs :: L)) (hd : dstOk N d = true := by rfl) :
    Fr P N w0 Lq l n' Q (j :: js) env L :=
  fr_run hj rfl hd fun a w ha hw => by
    subst hn
    have e1 : (ops.toArray.map fun (p : Nat × Operand) => match p with | (i, x) => (i, a.eval x)) = (idx vals 0).toArray := by
      rw [← ha.evp hx]; simp
    refine ⟨_, _, [own enc c ⟨false, w.heap.size, 0, xs.length, xs.length, none⟩ xs], ?_, mem_new (enc := enc) (c := c) (xs := xs) (cs := (flatR enc xs).toArray) (e := e) rfl xs.length xs.length rfl (Nat.le_refl _) (len24 hc h24) (by simp [flatR_length]) fun i x hx j hj => by rw [← flatR_get (enc := enc) xs i x hx j hj]; simp, hk _⟩
    simp only [execOp, e1, Sem.run_bind, run_buildSlice ht hv hc h24 w, Result.andThen, Sem.run_pure]; rfl

theorem madeCells_get {zc : Array Value} (m n : Nat) (h : zc.size = c) (i j : Nat) (hi : i < n) (hj : j < c) (hm : n * c ≤ m) : (madeCells zc m)[i * c + j]? = zc[j]? := by
  have hlt : i * c + j < m := by
    have : (i + 1) * c ≤ n * c := Nat.mul_le_mul_right _ hi
    rw [Nat.add_mul] at this; omega
  have e1 : (i * c + j) % zc.size = j := by rw [h, Nat.mul_comm, Nat.mul_add_mod]; exact Nat.mod_eq_of_lt hj
  have hz : j < zc.size := by omega
  simp [madeCells, hlt, e1, hz]

/-- make: n elements, all zero, and room for cap. -/
theorem run_makeS {t e : TypeId} {by' n cap : Nat} {z : Value} (ht : SlT P t e c by') (hz : ZeroT P e z) {k k' : IntKind} (x0 : α) (h0 : enc x0 = z.cells) (hle : n ≤ cap) (hb : by' * cap ≤ 281474976710656) (h63 : cap ≤ 140737488355328) (w : World) :
    ∃ w', (Instr.makeSlice t (.int k n) (.int k' cap)).run P w = .ok (Sv.val ⟨false, w.heap.size, 0, n, cap, none⟩) w' ∧ Mem w [own enc c ⟨false, w.heap.size, 0, n, cap, none⟩ (List.replicate n x0)] w' := by
  obtain ⟨i', z', hi1, hi2, hi3, hi4, hzc⟩ := ht.info
  obtain rfl : z' = z := by
    have := hz.zero
    rw [hi1, Option.map_some, hi2] at this; exact Option.some.inj (Option.some.inj this)
  subst hi3 hi4
  have hb' : (i'.bytes : Int) * (cap : Int) ≤ 281474976710656 := by
    have h : ((i'.bytes * cap : Nat) : Int) ≤ 281474976710656 := by omega
    rwa [Int.natCast_mul] at h
  have hr := run_make (P := P) w t e i' _ ht.und hi1 hi2 k k' n cap (by omega) (by omega) hb' (by omega)
  simp only [Int.toNat_natCast] at hr
  refine ⟨_, hr, mem_new rfl n cap (by simp) hle (by omega) (by simp [size_madeCells]) fun i x hx j hj => ?_⟩
  have hi : i < n := by
    have := (List.getElem?_eq_some_iff.1 hx).1
    simpa using this
  obtain rfl : x0 = x := by rw [List.getElem?_replicate, if_pos hi] at hx; exact Option.some.inj hx
  rw [h0]
  exact madeCells_get _ n hzc i j hi hj (Nat.mul_le_mul_right _ hle)
theorem sq_makeS {t e : TypeId} {by' n cap : Nat} {z : Value} {x y : Operand} {k k' : IntKind} {ix iy : Int} [ht : SlT P t e c by'] [hz : ZeroT P e z] (x0 : α) (h0 : enc x0 = z.cells) (hx : ev env x = some (.int k ix)) (hy : ev env y = some (.int k' iy)) (ex : ix = (n : Int)) (ey : iy = (cap : Int)) (hle : n ≤ cap) (hb : by' * cap ≤ 281474976710656) (h63 : cap ≤ 140737488355328)
    (hk : ∀ b, Sq P N w0 l Q rest (putE env d (Sv.val ⟨false, b, 0, n, cap, none⟩)) (own enc c ⟨false, b, 0, n, cap, none⟩ (List.replicate n x0) :: L)) (hd : dstOk N d = true := by rfl) :
    Sq P N w0 l Q (⟨d, .makeSlice t x y, ty, ps, af, none⟩ :: rest) env L :=
  sq_run rfl hd fun a w ha hw => by
    subst ex ey
    obtain ⟨w', h1, h2⟩ := run_makeS ht hz (k := k) (k' := k') (n := n) x0 h0 hle hb h63 w
    exact ⟨_, w', _, by simp only [execOp, ha.ev hx, ha.ev hy, Sem.run_bind, h1, Result.andThen, Sem.run_pure], hw.call h2, hk _⟩

/-- A store into element i of a slice of the call's own, from cell j of it on. -/
theorem mem_store {w : World} {L' : List Ent} {i k j : Nat} {a a' : α} {vs : Array Value} [he : Enc enc c] (hw : Mem w0 L w) (q : Owns L s enc c xs i) (ha : xs[k]? = some a) (hv : vs.all (·.oneCell') = true) (hj : j + vs.size ≤ c) (he' : over (enc a) j vs = enc a') (hu : Upd L i (own enc c s (xs.set k a')) L') :
    ∃ w', (storeCells ⟨s.b, s.o + k * c + j, none⟩ vs.toList).run P w = .ok () w' ∧ Mem w0 L' w' := by
  obtain ⟨r, hrow⟩ := hw.get q.h
  have hk : k < xs.length := (List.getElem?_eq_some_iff.1 ha).1
  have hn := r.some hk
  have hle := r.ok.le
  have hlen := r.len
  obtain ⟨hsp, cs, T, fz, hblk, hsz, hfz, hf0⟩ := hrow hn
  have hmul : (k + 1) * c ≤ s.cap * c := Nat.mul_le_mul_right _ (by omega)
  have hmul' := hmul
  rw [Nat.add_mul] at hmul
  have hfit : s.o + k * c + j + vs.size ≤ cs.size := by omega
  have hst := run_storeCells_free (P := P) s.b (s.o + k * c + j) T fz vs.toList 0 cs w hblk hfz (by simpa using hfit) (fun v hv' => (Array.all_eq_true_iff_forall_mem.1 hv) v (by simpa using hv'))
  refine ⟨w.setRow s.b (over cs (s.o + k * c + j) vs), by simpa [over] using hst, ?_⟩
  have hb' : hp (w.setRow s.b (over cs (s.o + k * c + j) vs)) s.b = some (.cells (over cs (s.o + k * c + j) vs) T fz) := setRow_heap w s.b cs _ T fz hblk
  rw [← hu.h]
  refine hw.change q.h (fun k hk => hk) (fun x hx => setRow_other w s.b x _ (fun e => hx ⟨hn, e⟩)) (by simp [World.setRow]) ⟨rfl, rfl, rfl⟩ ⟨rows_of r.ok (by simpa using hlen) hb' fun x y hy p hp' => ?_, fun _ => ⟨hsp, _, _, _, hb', by rw [over_size hfit]; exact hsz, by rw [over_size hfit]; exact hfz, hf0⟩⟩
  rw [cells_over hfit]
  by_cases hxk : x = k
  · subst hxk
    obtain rfl : a' = y := by rw [List.getElem?_set_self hk] at hy; exact Option.some.inj hy
    rw [← he', cells_over (by rw [he.size]; exact hj)]
    by_cases h1 : j ≤ p ∧ p < j + vs.size
    · rw [if_pos h1, if_pos (by omega)]; congr 1; omega
    · rw [if_neg h1, if_neg (by omega), ← r.row x a ha p hp']
      unfold cellH; rw [hblk]
  · rw [List.getElem?_set_ne (by omega)] at hy
    rw [if_neg, ← r.row x y hy p hp']
    · unfold cellH; rw [hblk]
    · intro h
      rcases Nat.lt_or_gt_of_ne hxk with h' | h'
      · have : (x + 1) * c ≤ k * c := Nat.mul_le_mul_right _ h'
        rw [Nat.add_mul] at this; omega
      · have : (k + 1) * c ≤ x * c := Nat.mul_le_mul_right _ h'
        rw [Nat.add_mul] at this; omega
theorem sq_storeS {t : TypeId} {x y : Operand} {i k j n p : Nat} {a a' : α} {v : Value} (sz : (P.info? t).map (·.size) = some n) [he : Enc enc c] (hx : ev env x = some (.pointer (some ⟨s.b, p, none⟩))) (hy : ev env y = some v) [q : Owns L s enc c xs i] (hp' : p = s.o + k * c + j)
    (ha : xs[k]? = some a) (hv : v.cells.all (·.oneCell') = true) (hn : v.cells.size = n) (hj : j + n ≤ c) (he' : over (enc a) j v.cells = enc a') {L' : List Ent} [hu : Upd L i (own enc c s (xs.set k a')) L'] (hk : Sq P N w0 l Q rest env L') :
    Sq P N w0 l Q (⟨none, .store t x y, ty, ps, af, none⟩ :: rest) env L :=
  sq_run_skip rfl rfl fun aa w haa hw => by
    subst hp' hn
    obtain ⟨w', h1, h2⟩ := mem_store (P := P) hw q ha hv hj he' hu
    refine ⟨w', _, ?_, h2, hk⟩
    simp only [execOp, haa.ev hx, haa.ev hy, Instr.storeAt, Instr.sureAddr, storeVar, Sem.run_bind, Sem.run_pure, Result.andThen, run_sizeOf' w sz]
    simp [h1]

/-- A call, in general: what it leaves is told anew. -/
theorem sq_callG {X : Type} {val : X → Value} {L' : X → List Ent} {pr : X → Prop} {f : FuncId} {xs : List Operand} {ts : Array TypeId} {vs : List Value} [hf : IsFn P f] (hx : evl env xs = some vs)
    (hc : ∀ w, Mem w0 L w → Calls P f vs.toArray w fun e w' => ∃ x, e = .returned (val x) ∧ pr x ∧ Mem w0 (L' x) w') (hk : ∀ x, pr x → Sq P N w0 l Q rest (putE env d (val x)) (L' x)) (hd : dstOk N d = true := by rfl) :
    Sq P N w0 l Q (⟨d, .call { callee := .value (.func f), args := xs.toArray, argTypes := ts }, ty, ps, af, none⟩ :: rest) env L := fun a w ha hw => by
  unfold wpList
  rw [if_pos (wanted_none rfl)]
  refine .inl ?_
  unfold Oper.wp
  rw [run_call hf w rfl, ha.evl hx]
  exact (hc w hw).mono fun e w' ⟨x, he, hp, hm⟩ => by subst he; exact hk x hp _ _ (ha.put hd _) hm
/-- A call whose arguments' memory is part of L. -/
theorem calls_in {N : Nat} {fn : Func} {R : Ending → World → Prop} {f : FuncId} {c : Code} {args : List Value} {w : World} (hf : P.funcs[f]? = some fn) (hb : fn.body = some c) (hN : fn.ntmps = N) (hle : Nat.ble args.length N = true) (hw : Mem w0 L w)
    (h : Cw P ⟨N, [], none⟩ w0 (endPost P fn R) c (args.zipIdx.map fun p => (p.2, p.1)) L) : Calls P f args.toArray w R :=
  calls_of_end hf hb (h _ _ (by rw [hN]; exact Rep.enter args N (Nat.le_of_ble_eq_true hle)) hw)
/-- A block of the call's own, as a slice over all of it. -/
theorem holds_blk {b n i : Nat} {cs : Array Value} {T : TypeId} [hi : Has L b cs T i] [he : Enc enc c] (hcs : cs = (flatR enc xs).toArray) (hn : xs.length = n) (h63 : n ≤ 140737488355328 := by decide) : Holds w0 L enc c ⟨false, b, 0, n, n, none⟩ xs := fun w hw => by
  have hb := hw.block hi.h
  exact rows_of ⟨(fun h => by cases h), Nat.le_refl _, h63, fun _ => rfl⟩ hn.symm hb fun k x hx j hj => by
    rw [← flatR_get (enc := enc) xs k x hx j hj, hcs]; simp

/-- A nil slice is the call's own. -/
theorem sq_own0 (enc : α → Array Value) (c : Nat) (h : Sq P N w0 l Q rest env (own enc c Sv.none [] :: L)) : Sq P N w0 l Q rest env L := fun a w ha hw => h a w ha (hw.nilOwn enc c)

/-! Results. -/
def rvRun (tmps : Array Value) (r : ResultVar) : Sem Value := match r with
  | .tmp t => pure (tmps.getD t undef)
  | .cell c t => do loadVar t (← asAddr (tmps.getD c undef))
theorem results_eq (fn : Func) (tmps : Array Value) : results fn tmps = (do let vs ← fn.results.mapM (rvRun tmps); pure (if h : vs.size = 1 then vs[0] else .tuple vs)) := by
  have : (fun r => rvRun tmps r) = (fun | .tmp t => pure (tmps.getD t undef) | .cell a t => do loadVar t (← asAddr (tmps.getD a undef)) : ResultVar → Sem Value) := by
    funext r; cases r <;> rfl
  show _ = (do let vs ← fn.results.mapM (fun r => rvRun tmps r); pure (if h : vs.size = 1 then vs[0] else .tuple vs))
  rw [this]; rfl
def RV (P : Program) (N : Fra) (w0 : World) (env : Env) (L : List Ent) (r : ResultVar) (v : Value) : Prop := ∀ a w, Rep N env a → Mem w0 L w → (rvRun a.tmps r).run P w = .ok v w
theorem rv_tmp {t : Nat} {v : Value} (hv : look env t = some v) : RV P N w0 env L (.tmp t) v := fun a w ha _ => by
  have := ha.get _ _ hv
  simp [rvRun, this]
theorem rv_agg {t b i n : Nat} {T T' : TypeId} {cs : Array Value} (hv : look env t = some (.pointer (some ⟨b, 0, none⟩))) [ht : RowT P T n] [hi : Has L b cs T' i] [hn : SizeIs cs n] : RV P N w0 env L (.cell t T) (.agg cs) := fun a w ha hw => by
  have h1 := ha.get _ _ hv
  have h2 : (loadVar T ⟨b, 0, none⟩).run P w = .ok (.agg cs) w := run_loadVar_agg w ht hn.h fun j _ => by rw [Addr.add_none, hw.cell hi.h, Nat.zero_add]
  simp [rvRun, h1, asAddr, h2]
theorem rv_one {t b i : Nat} {T T' : TypeId} {cs : Array Value} {v : Value} (hv : look env t = some (.pointer (some ⟨b, 0, none⟩))) [ht : OneT P T] [hi : Has L b cs T' i] (hc : cs[0]? = some v) : RV P N w0 env L (.cell t T) v := fun a w ha hw => by
  have h1 := ha.get _ _ hv
  have h2 : (loadVar T ⟨b, 0, none⟩).run P w = .ok v w := run_loadVar_one w ht (by rw [hw.cell hi.h]; exact hc)
  simp [rvRun, h1, asAddr, h2]
variable {fn : Func} {r1 r2 r3 : ResultVar} {v1 v2 v3 : Value}
theorem mapM_2 {A B : Type} (f : A → Sem B) (x y : A) : (#[x, y] : Array A).mapM f = (do let a ← f x; let b ← f y; pure #[a, b]) := by simp
theorem mapM_3 {A B : Type} (f : A → Sem B) (x y z : A) : (#[x, y, z] : Array A).mapM f = (do let a ← f x; let b ← f y; let c ← f z; pure #[a, b, c]) := by simp
theorem res_1 (hf : fn.results = #[r1]) (h1 : RV P N w0 env L r1 v1) : ∀ a w, Rep N env a → Mem w0 L w → (results fn a.tmps).run P w = .ok v1 w := fun a w ha hw => by
  have e1 := h1 a w ha hw
  rw [results_eq, hf]
  simp [e1]
theorem res_2 (hf : fn.results = #[r1, r2]) (h1 : RV P N w0 env L r1 v1) (h2 : RV P N w0 env L r2 v2) : ∀ a w, Rep N env a → Mem w0 L w → (results fn a.tmps).run P w = .ok (.tuple #[v1, v2]) w := fun a w ha hw => by
  have e1 := h1 a w ha hw
  have e2 := h2 a w ha hw
  rw [results_eq, hf, mapM_2]
  simp [e1, e2]
theorem res_3 (hf : fn.results = #[r1, r2, r3]) (h1 : RV P N w0 env L r1 v1) (h2 : RV P N w0 env L r2 v2) (h3 : RV P N w0 env L r3 v3) : ∀ a w, Rep N env a → Mem w0 L w → (results fn a.tmps).run P w = .ok (.tuple #[v1, v2, v3]) w := fun a w ha hw => by
  have e1 := h1 a w ha hw
  have e2 := h2 a w ha hw
  have e3 := h3 a w ha hw
  rw [results_eq, hf, mapM_3]
  simp [e1, e2, e3]
end
end Go.Eng
