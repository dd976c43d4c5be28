/- Slices: what they hold, by rows; those that came in and those that the call itself has made. -/
import Derived.Test.YtldkgicmfbofiaaMa
import Derived.Deep.AppendSrc
import Derived.Laws.MakeOwn
import Derived.Laws.Append
import Derived.Laws.Slices
import Derived.Laws.AppendOwn
import Derived.Laws.IdiomStrings
import Derived.Laws.Strings
import Derived.Laws.Cover3
import Derived.Lib.AppendZerosOnto
import Derived.Lib.Overlaps

set_option linter.unusedSimpArgs false
set_option linter.unusedVariables false
namespace Go.Eng
open Go.RowKit

/-- A slice's value, by its parts. -/
structure Sv where
  nil : Bool
  b : Nat
  o : Nat
  len : Nat
  cap : Nat
  sp : Option Nat
def Sv.val (s : Sv) : Value := match s.nil with
  | true => .slice none 0 0
  | false => .slice (some ⟨s.b, s.o, s.sp⟩) s.len s.cap
structure Sv.Ok (s : Sv) : Prop where
  nil : s.nil = true → s.len = 0 ∧ s.cap = 0
  le : s.len ≤ s.cap
  bd : s.len ≤ 140737488355328
  sp : 0 < s.cap → s.sp = none
theorem Sv.Ok.some {s : Sv} (h : s.Ok) (hl : 0 < s.len) : s.nil = false := by
  cases hn : s.nil with
  | false => rfl
  | true => have := h.nil hn; omega
theorem Sv.val_some {s : Sv} (h : s.nil = false) : s.val = .slice (some ⟨s.b, s.o, s.sp⟩) s.len s.cap := by simp [Sv.val, h]
theorem Sv.val_nil {s : Sv} (h : s.nil = true) : s.val = .slice none 0 0 := by simp [Sv.val, h]
/-- The nil slice. -/
def Sv.none : Sv := ⟨true, 0, 0, 0, 0, .none⟩
theorem Sv.none_ok : Sv.none.Ok := ⟨fun _ => ⟨rfl, rfl⟩, Nat.le_refl _, Nat.zero_le _, fun _ => rfl⟩
theorem Sv.one (s : Sv) : s.val.oneCell' = true := by unfold Sv.val; split <;> rfl

/-- The cell at a place. -/
def cellH (h : Nat → Option Obj) (b o : Nat) : Option Value := match h b with
  | some (.cells cs _ _) => cs[o]?
  | _ => none
abbrev hp (w : World) : Nat → Option Obj := fun k => w.heap[k]?
theorem cell_hp (w : World) (b o : Nat) : w.cell? ⟨b, o, none⟩ = cellH (hp w) b o := by
  unfold World.cell? cellH
  split <;> simp_all

/-- How a thing lies in c cells. -/
class Enc {α : Type} (enc : α → Array Value) (c : outParam Nat) : Prop where
  size : ∀ x, (enc x).size = c
  one : ∀ x, (enc x).all (·.oneCell') = true

/-- The slice s holds xs. -/
structure Lies {α : Type} (enc : α → Array Value) (c : Nat) (h : Nat → Option Obj) (s : Sv) (xs : List α) : Prop where
  ok : s.Ok
  len : s.len = xs.length
  row : ∀ i x, xs[i]? = some x → ∀ j, j < c → cellH h s.b (s.o + i * c + j) = (enc x)[j]?

theorem Lies.some {α : Type} {enc : α → Array Value} {c : Nat} {h : Nat → Option Obj} {s : Sv} {xs : List α} (r : Lies enc c h s xs) {i : Nat} (hi : i < xs.length) : s.nil = false := r.ok.some (by rw [r.len]; omega)
theorem Lies.nil {α : Type} (enc : α → Array Value) (c : Nat) (h : Nat → Option Obj) : Lies enc c h Sv.none ([] : List α) := ⟨Sv.none_ok, rfl, by simp⟩

theorem Lies.bd {α : Type} {enc : α → Array Value} {c : Nat} {h : Nat → Option Obj} {s : Sv} {xs : List α} (r : Lies enc c h s xs) : xs.length ≤ 140737488355328 := by have := r.ok.bd; have := r.len; omega
/-- What came in stays. -/
theorem Lies.mono {α : Type} {enc : α → Array Value} {c : Nat} [he : Enc enc c] {w w' : World} {s : Sv} {xs : List α} (r : Lies enc c (hp w) s xs) (hb : Below w.heap.size w w') : Lies enc c (hp w') s xs :=
  ⟨r.ok, r.len, fun i x hi j hj => by
    have h := r.row i x hi j hj
    rw [← h]
    have hsome : ((enc x)[j]?).isSome := by rw [Array.getElem?_eq_getElem (by rw [he.size]; exact hj)]; rfl
    rw [← h] at hsome
    have hlt : s.b < w.heap.size := by
      rcases Nat.lt_or_ge s.b w.heap.size with h' | h'
      · exact h'
      · simp [cellH, hp, Array.getElem?_eq_none h'] at hsome
    have e : (hp w') s.b = (hp w) s.b := hb.block s.b hlt
    unfold cellH
    rw [e]⟩

/-- None of n cells is marked. -/
def Free (n : Nat) (fz : Nat × Nat) : Prop := ∀ j, j < n → ¬ (fz.1 ≤ j ∧ j < fz.2)
theorem free_00 (n : Nat) : Free n (0, 0) := fun j _ h => by have := h.2; simp at this
/-- A slice that the call has made, and alone holds. -/
def own {α : Type} (enc : α → Array Value) (c : Nat) (s : Sv) (xs : List α) : Ent :=
  ⟨fun k => s.nil = false ∧ k = s.b, fun h => Lies enc c h s xs ∧ (s.nil = false → s.sp = .none ∧ ∃ cs T fz, h s.b = some (.cells cs T fz) ∧ s.o + s.cap * c ≤ cs.size ∧ Free cs.size fz ∧ (1 < c → fz = (0, 0))),
   fun h h' e st => by
    cases hn : s.nil with
    | true =>
      refine ⟨⟨st.1.ok, st.1.len, fun i x hi => ?_⟩, fun h => by cases h⟩
      have := st.1.some (List.getElem?_eq_some_iff.1 hi).1
      rw [hn] at this; cases this
    | false =>
      have e1 := e s.b ⟨hn, rfl⟩
      refine ⟨⟨st.1.ok, st.1.len, fun i x hi j hj => ?_⟩, fun _ => ?_⟩
      · rw [← st.1.row i x hi j hj]; unfold cellH; rw [e1]
      · rw [e1]; exact st.2 hn⟩

section
variable {P : Program} {N : Fra} {w0 : World} {env : Env} {L : List Ent} {d : Option Tmp} {ty : TypeId} {ps : String} {af : Array Edge} {gd : Option (Nat × Bool)}
variable {α : Type} {enc : α → Array Value} {c : Nat} {s : Sv} {xs : List α}

/-- In all worlds that the frame's facts tell of, s holds xs. -/
def Holds (w0 : World) (L : List Ent) {α : Type} (enc : α → Array Value) (c : Nat) (s : Sv) (xs : List α) : Prop := ∀ w, Mem w0 L w → Lies enc c (hp w) s xs
theorem holds_given [Enc enc c] (r : Lies enc c (hp w0) s xs) : Holds w0 L enc c s xs := fun _ hw => r.mono hw.below
/-- Entry i of L is e. -/
class At (L : List Ent) (e : Ent) (i : outParam Nat) : Prop where
  h : L[i]? = some e
instance (priority := high) At.here {L : List Ent} {e : Ent} : At (e :: L) e 0 := ⟨rfl⟩
instance At.there {L : List Ent} {e x : Ent} {i : Nat} [q : At L e i] : At (x :: L) e (i + 1) := ⟨by simpa using q.h⟩
theorem holds_own {i : Nat} [q : At L (own enc c s xs) i] : Holds w0 L enc c s xs := fun _ hw => (hw.get q.h).1

theorem ry_lenS {t e : TypeId} {x : Operand} {m n : Nat} [ht : SliceT P t e m] (hx : ev env x = some s.val) (hs : s.Ok) (hn : s.len = n) :
    Ry P N w0 env L ⟨d, .call { callee := .builtin .len, args := #[x], argTypes := #[t] }, ty, ps, af, gd⟩ (.int .i64 n) := by
  subst hn
  cases h : s.nil with
  | false => rw [Sv.val_some h] at hx; exact ry_len_slice hx
  | true =>
    rw [Sv.val_nil h] at hx
    rw [(hs.nil h).1]
    exact ry_len_slice hx
theorem ry_idxSv {t e : TypeId} {x ix : Operand} {m i : Nat} {k : IntKind} {j : Int} [ht : SliceT P t e m] (hx : ev env x = some s.val) (hj : ev env ix = some (.int k j)) (ej : j = (i : Int)) (hs : s.Ok) (h1 : i < s.len) :
    Ry P N w0 env L ⟨d, .indexAddr t x ix, ty, ps, af, gd⟩ (.pointer (some ⟨s.b, s.o + i * m, none⟩)) := by
  subst ej
  rw [Sv.val_some (hs.some (by omega)), hs.sp (by have := hs.le; omega)] at hx
  have := ry_idxS (P := P) (N := N) (w0 := w0) (L := L) (d := d) (ty := ty) (ps := ps) (af := af) (gd := gd) (t := t) hx hj (by omega) (by omega)
  simpa using this

/-- Element i, whole: a struct or an array. -/
theorem ry_elem {t : TypeId} {x : Operand} {i p : Nat} {a : α} [ht : RowT P t c] [he : Enc enc c] (hx : ev env x = some (.pointer (some ⟨s.b, p, none⟩))) (hR : Holds w0 L enc c s xs) (hi : xs[i]? = some a) (hp' : p = s.o + i * c) :
    Ry P N w0 env L ⟨d, .load t x, ty, ps, af, gd⟩ (.agg (enc a)) := ry_load_agg ht hx (he.size a) fun w hw j hj => by
  rw [Addr.add_none, cell_hp, hp', (hR w hw).row i a hi j hj]
/-- A cell of element i. -/
theorem ry_elemc {t : TypeId} {x : Operand} {i p j : Nat} {a : α} {v : Value} [ht : OneT P t] (hx : ev env x = some (.pointer (some ⟨s.b, p, none⟩))) (hR : Holds w0 L enc c s xs) (hi : xs[i]? = some a) (hp' : p = s.o + i * c + j) (hj : j < c) (hv : (enc a)[j]? = some v) :
    Ry P N w0 env L ⟨d, .load t x, ty, ps, af, gd⟩ v := ry_load_one ht hx fun w hw => by
  rw [cell_hp, hp', (hR w hw).row i a hi j hj, hv]
/-- A part of element i. -/
theorem ry_elemp {t : TypeId} {x : Operand} {i p j n : Nat} {a : α} {sub : Array Value} [ht : RowT P t n] (hx : ev env x = some (.pointer (some ⟨s.b, p, none⟩))) (hR : Holds w0 L enc c s xs) (hi : xs[i]? = some a) (hp' : p = s.o + i * c + j) (hj : j + n ≤ c) [hs : PartAt (enc a) j n sub] :
    Ry P N w0 env L ⟨d, .load t x, ty, ps, af, gd⟩ (.agg sub) := ry_load_agg ht hx hs.size fun w hw k hk => by
  rw [Addr.add_none, cell_hp, hp', Nat.add_assoc, (hR w hw).row i a hi (j + k) (by omega)]; exact hs.h k hk

/-! Slices of slices. -/
def Sv.sub (s : Sv) (c lo hi : Nat) : Sv := ⟨s.nil, s.b, if s.cap = lo then s.o else s.o + lo * c, hi - lo, s.cap - lo, s.sp⟩
theorem Sv.Ok.sub {lo hi : Nat} (h : s.Ok) (h2 : hi ≤ s.cap) (h3 : hi ≤ s.len) : (s.sub c lo hi).Ok :=
  ⟨fun hn => by have := h.nil hn; simp only [Sv.sub]; omega, by simp only [Sv.sub]; omega, by have := h.bd; simp only [Sv.sub]; omega, fun hc => h.sp (by simp only [Sv.sub] at hc; omega)⟩
theorem Lies.sub {h : Nat → Option Obj} (r : Lies enc c h s xs) {lo hi : Nat} (h1 : lo ≤ hi) (h2 : hi ≤ xs.length) : Lies enc c h (s.sub c lo hi) ((xs.drop lo).take (hi - lo)) := by
  have hl := r.len
  have hc := r.ok.le
  refine ⟨r.ok.sub (by omega) (by omega), by simp [Sv.sub]; omega, fun i x hi' j hj => ?_⟩
  have hlt : i < hi - lo := by
    have := (List.getElem?_eq_some_iff.1 hi').1
    simp at this; omega
  rw [List.getElem?_take, if_pos hlt, List.getElem?_drop] at hi'
  have := r.row (lo + i) x hi' j hj
  rw [← this]
  have e : (s.sub c lo hi).o = s.o + lo * c := by
    simp only [Sv.sub]; rw [if_neg (by omega)]
  rw [e, show (s.sub c lo hi).b = s.b from rfl]
  congr 1
  rw [Nat.add_mul]; omega
theorem Holds.sub (r : Holds w0 L enc c s xs) {lo hi : Nat} (h1 : lo ≤ hi) (h2 : hi ≤ xs.length) : Holds w0 L enc c (s.sub c lo hi) ((xs.drop lo).take (hi - lo)) := fun w hw => (r w hw).sub h1 h2

theorem elem_of {t e : TypeId} (hu : P.underlying t = some (.slice e)) : P.elem t = e := by simp [Program.elem, hu]
theorem slicedSv {lo hi : Nat} (hs : s.Ok) (h2 : lo ≤ hi) (h : hi ≤ s.cap) : ∀ a len cap, s.val = .slice a len cap → len = s.len ∧ cap = s.cap ∧ sliced a lo hi cap c = (s.sub c lo hi).val := by
  intro a len cap e
  cases hn : s.nil with
  | true =>
    rw [Sv.val_nil hn] at e
    obtain ⟨rfl, rfl, rfl⟩ := by simpa using e
    have := hs.nil hn
    have e2 : (s.sub c lo hi).nil = true := hn
    rw [Sv.val_nil e2]
    have : lo = 0 := by omega
    have : hi = 0 := by omega
    subst lo hi
    exact ⟨by omega, by omega, by simp [sliced]⟩
  | false =>
    rw [Sv.val_some hn] at e
    obtain ⟨rfl, rfl, rfl⟩ := by simpa using e
    have e2 : (s.sub c lo hi).nil = false := hn
    rw [Sv.val_some e2]
    refine ⟨rfl, rfl, ?_⟩
    simp only [sliced, Sv.sub]
    by_cases hc : s.cap = lo
    · simp [hc]
    · have hsp := hs.sp (by omega)
      simp [hc, hsp, Addr.add_none]
theorem Sv.ex (s : Sv) : ∃ ad len cap, s.val = .slice ad len cap := by unfold Sv.val; split <;> exact ⟨_, _, _, rfl⟩
theorem ry_subS {t e : TypeId} {x lo hi : Operand} {m l h : Nat} {k k' : IntKind} {il ih : Int} [ht : SliceT P t e m] (hx : ev env x = some s.val) (hl : ev env lo = some (.int k il)) (hh : ev env hi = some (.int k' ih)) (el : il = (l : Int)) (eh : ih = (h : Int)) (hs : s.Ok) (h1 : l ≤ h) (h2 : h ≤ s.cap) :
    Ry P N w0 env L ⟨d, .slice t x (some lo) (some hi) none, ty, ps, af, gd⟩ (s.sub m l h).val := fun a w ha _ => by
  subst el eh
  have ee := elem_of ht.und
  have hu : P.underlying t = some (.slice (P.elem t)) := by rw [ee]; exact ht.und
  obtain ⟨ad, len, cap, ev'⟩ := s.ex
  obtain ⟨e1, e2, e3⟩ := slicedSv (c := m) hs h1 h2 ad len cap ev'
  have hr := run_slice_lh (P := P) (w := w) t ad len cap hu k k' (l : Int) (h : Int) (by omega) (by omega) (by omega)
  rw [ee, run_sizeOf' w ht.size] at hr
  simp only [Result.andThen, Int.toNat_natCast, e3] at hr
  simp only [execOp, ha.ev hx, ha.ev hl, ha.ev hh, ev', Option.map_some, Option.map_none, run_sliceAt_slice (h := hu), hr, Sem.run_bind, Result.andThen, Sem.run_pure]
theorem ry_subS_hi {t e : TypeId} {x hi : Operand} {m h : Nat} {k' : IntKind} {ih : Int} [ht : SliceT P t e m] (hx : ev env x = some s.val) (hh : ev env hi = some (.int k' ih)) (eh : ih = (h : Int)) (hs : s.Ok) (h2 : h ≤ s.cap) :
    Ry P N w0 env L ⟨d, .slice t x none (some hi) none, ty, ps, af, gd⟩ (s.sub m 0 h).val := fun a w ha _ => by
  subst eh
  have ee := elem_of ht.und
  have hu : P.underlying t = some (.slice (P.elem t)) := by rw [ee]; exact ht.und
  obtain ⟨ad, len, cap, ev'⟩ := s.ex
  obtain ⟨e1, e2, e3⟩ := slicedSv (c := m) hs (Nat.zero_le h) h2 ad len cap ev'
  have hr := run_slice_h (P := P) (w := w) t ad len cap hu k' (h : Int) (by omega) (by omega)
  rw [ee, run_sizeOf' w ht.size] at hr
  simp only [Result.andThen, Int.toNat_natCast, e3] at hr
  simp only [execOp, ha.ev hx, ha.ev hh, ev', Option.map_some, Option.map_none, run_sliceAt_slice (h := hu), hr, Sem.run_bind, Result.andThen, Sem.run_pure]
theorem ry_subS_lo {t e : TypeId} {x lo : Operand} {m l n : Nat} {k : IntKind} {il : Int} [ht : SliceT P t e m] (hx : ev env x = some s.val) (hl : ev env lo = some (.int k il)) (el : il = (l : Int)) (hs : s.Ok) (hn : s.len = n) (h1 : l ≤ n) :
    Ry P N w0 env L ⟨d, .slice t x (some lo) none none, ty, ps, af, gd⟩ (s.sub m l n).val := fun a w ha _ => by
  subst el hn
  have ee := elem_of ht.und
  have hu : P.underlying t = some (.slice (P.elem t)) := by rw [ee]; exact ht.und
  obtain ⟨ad, len, cap, ev'⟩ := s.ex
  obtain ⟨e1, e2, e3⟩ := slicedSv (c := m) hs h1 hs.le ad len cap ev'
  have hle := hs.le
  have hr := run_slice_l (P := P) (w := w) t ad len cap hu k (l : Int) (by omega) (by omega)
  rw [ee, run_sizeOf' w ht.size] at hr
  simp only [Result.andThen, Int.toNat_natCast, e1] at hr
  rw [e1] at ev'
  rw [e3] at hr
  simp only [execOp, ha.ev hx, ha.ev hl, ev', Option.map_some, Option.map_none, run_sliceAt_slice (h := hu), hr, Sem.run_bind, Result.andThen, Sem.run_pure]
end

end Go.Eng

/- Slices that the call itself makes: made, appended to, written. -/
set_option linter.unusedSimpArgs false
set_option linter.unusedVariables false
namespace Go.Eng
open Go.RowKit

theorem set_perm (x : Ent) : ∀ (L : List Ent) (i : Nat), i < L.length → (x :: L.eraseIdx i).Perm (L.set i x)
  | [], _, h => by simp at h
  | _ :: _, 0, _ => by simp
  | a :: L, i + 1, h => by
    simp only [List.eraseIdx_cons_succ, List.set_cons_succ]
    exact (List.Perm.swap a x _).trans ((set_perm x L i (by simpa using h)).cons a)

/-- Entry i forgotten, and one that was made anew put there. -/
theorem Mem.swap {w0 : World} {L : List Ent} {w w' : World} {E : Ent} (h : Mem w0 L w) {i : Nat} (hi : i < L.length) (h' : Mem w [E] w') : Mem w0 (L.set i E) w' :=
  ((h.call h').sub (L' := E :: L.eraseIdx i) ((List.eraseIdx_sublist L i).cons_cons E)).perm (set_perm E L i hi)
theorem At.lt {L : List Ent} {e : Ent} {i : Nat} (h : L[i]? = some e) : i < L.length := (List.getElem?_eq_some_iff.1 h).1

/-- A slice's type, and its elements'. -/
class SlT (P : Program) (t : TypeId) (e : outParam TypeId) (c : outParam Nat) (by' : outParam Nat) : Prop where
  und : P.underlying t = some (.slice e)
  row : (P.info? e).map (fun i => (i.zero.map (·.cells.size), i.size, i.bytes)) = some (some c, c, by')
theorem SlT.info {P : Program} {t e : TypeId} {c by' : Nat} (h : SlT P t e c by') : ∃ i z, P.info? e = some i ∧ i.zero = some z ∧ i.size = c ∧ i.bytes = by' ∧ z.cells.size = c := by
  have h := h.row
  cases hi : P.info? e with
  | none => simp [hi] at h
  | some i =>
    cases hz : i.zero with
    | none => simp [hi, hz] at h
    | some z => simp [hi, hz] at h; exact ⟨i, z, rfl, hz, h.2.1, h.2.2, h.1⟩

theorem cells_over {cs vs : Array Value} {o j : Nat} (ho : o + vs.size ≤ cs.size) : (over cs o vs)[j]? = if o ≤ j ∧ j < o + vs.size then vs[j - o]? else cs[j]? := by
  unfold over
  simp only [List.getElem?_toArray]
  rw [List.append_assoc, List.getElem?_append]
  have e1 : (List.take o cs.toList).length = o := by simp; omega
  rw [e1]
  by_cases h1 : j < o
  · rw [if_pos h1, if_neg (by omega), List.getElem?_take, if_pos h1]; simp
  · rw [if_neg h1, List.getElem?_append]
    by_cases h2 : j - o < vs.toList.length
    · rw [if_pos h2, if_pos (by simp at h2; omega)]; simp
    · rw [if_neg h2, if_neg (by simp at h2; omega), List.getElem?_drop]
      simp at h2 ⊢
      congr 1; omega
theorem over_size {cs vs : Array Value} {o : Nat} (ho : o + vs.size ≤ cs.size) : (over cs o vs).size = cs.size := by
  simp [over]; omega

theorem run_storeCells_free {P : Program} (g o : Nat) (t : TypeId) (fz : Nat × Nat) : ∀ (vs : List Value) (i : Nat) (cur : Array Value) (w : World), w.heap[g]? = some (.cells cur t fz) → Free cur.size fz → o + i + vs.length ≤ cur.size → (∀ v ∈ vs, v.oneCell' = true) →
    (storeCells ⟨g, o, none⟩ vs i).run P w = .ok () (w.setRow g (cur.toList.take (o + i) ++ vs ++ cur.toList.drop (o + i + vs.length)).toArray)
  | [], i, cur, w, hg, _, _, _ => by
    simp only [storeCells, List.append_nil, List.length_nil, Nat.add_zero, List.take_append_drop, Array.toArray_toList]
    rw [setRow_self w g cur t fz hg]
    rfl
  | v :: rest, i, cur, w, hg, hf, hl, h1 => by
    have hi : o + i < cur.size := by simp at hl; omega
    have hadd : (⟨g, o, none⟩ : Addr).add i = ⟨g, o + i, none⟩ := by unfold Addr.add; split <;> simp_all
    have hcell : w.cell? ⟨g, o + i, none⟩ = some cur[o + i] := by simp [World.cell?, hg, hi]
    have hfro : w.frozen? ⟨g, o + i, none⟩ = false := by
      have := hf (o + i) hi
      obtain ⟨a, b⟩ := fz
      simp only [World.frozen?, hg]
      simp only [Bool.and_eq_false_iff, decide_eq_false_iff_not]
      omega
    have hst : (store ((⟨g, o, none⟩ : Addr).add i) v).run P w = .ok () (w.setRow g (cur.setIfInBounds (o + i) v)) := by
      rw [hadd, run_store P w _ v _ (h1 v (by simp)), hcell]
      simp [hfro, setCell_eq_setRow w g (o + i) cur t fz v hg]
    have ih := run_storeCells_free (P := P) g o t fz rest (i + 1) (cur.setIfInBounds (o + i) v) (w.setRow g (cur.setIfInBounds (o + i) v)) (setRow_heap w g cur _ t _ hg) (by simpa using hf) (by simp at hl ⊢; omega) (fun x hx => h1 x (by simp [hx]))
    simp only [storeCells, Sem.run_bind, hst, Result.andThen_ok, ih, setRow_setRow]
    congr 3
    have e := list_seg_step cur.toList (o + i) v rest (by simp at hl ⊢; omega)
    simpa [Array.toList_setIfInBounds, Nat.add_assoc] using e

section
variable {α : Type} {enc : α → Array Value} {c : Nat}
/-- The rows, one behind the other. -/
def flatR (enc : α → Array Value) (xs : List α) : List Value := xs.flatMap fun x => (enc x).toList
theorem flatR_length [he : Enc enc c] : ∀ xs : List α, (flatR enc xs).length = xs.length * c
  | [] => by simp [flatR]
  | x :: xs => by
    have := flatR_length xs
    simp only [flatR, List.flatMap_cons, List.length_append] at this ⊢
    rw [this, Array.length_toList, he.size, List.length_cons, Nat.add_mul]; omega
theorem flatR_get [he : Enc enc c] : ∀ (xs : List α) (i : Nat) (x : α), xs[i]? = some x → ∀ j, j < c → (flatR enc xs)[i * c + j]? = (enc x)[j]?
  | [], i, x, h, _, _ => by simp at h
  | y :: xs, 0, x, h, j, hj => by
    obtain rfl : y = x := by simpa using h
    simp only [flatR, List.flatMap_cons, Nat.zero_mul, Nat.zero_add]
    rw [List.getElem?_append_left (by rw [Array.length_toList, he.size]; exact hj)]; simp
  | y :: xs, i + 1, x, h, j, hj => by
    have := flatR_get xs i x (by simpa using h) j hj
    simp only [flatR, List.flatMap_cons] at this ⊢
    rw [List.getElem?_append_right (by rw [Array.length_toList, he.size, Nat.add_mul]; omega), Array.length_toList, he.size]
    rw [← this]; congr 1; rw [Nat.add_mul]; omega
theorem flatR_div (hc : 0 < c) [he : Enc enc c] {xs : List α} {k : Nat} {v : Value} (h : (flatR enc xs)[k]? = some v) : ∃ x, xs[k / c]? = some x ∧ (enc x)[k % c]? = some v := by
  have hk : k < xs.length * c := by
    have := (List.getElem?_eq_some_iff.1 h).1
    rwa [flatR_length] at this
  have hd : k / c < xs.length := Nat.div_lt_of_lt_mul (by rwa [Nat.mul_comm])
  refine ⟨xs[k / c], by simp [hd], ?_⟩
  rw [← flatR_get xs (k / c) xs[k / c] (by simp [hd]) (k % c) (Nat.mod_lt _ hc), ← h]
  congr 1; rw [Nat.mul_comm]; exact Nat.div_add_mod k c
theorem flatR_one [he : Enc enc c] (xs : List α) : ∀ u ∈ flatR enc xs, u.oneCell' = true := fun u hu => by
  obtain ⟨x, _, hx⟩ := List.mem_flatMap.1 hu
  exact (Array.all_eq_true_iff_forall_mem.1 (he.one x)) u (by simpa using hx)

/-- A row of cells that bears a slice's rows from o on. -/
theorem rows_of {h : Nat → Option Obj} {s : Sv} {xs : List α} {cs : Array Value} {T : TypeId} {fz : Nat × Nat} (ok : s.Ok) (hl : s.len = xs.length) (hb : h s.b = some (.cells cs T fz))
    (hc : ∀ i x, xs[i]? = some x → ∀ j, j < c → cs[s.o + i * c + j]? = (enc x)[j]?) : Lies enc c h s xs :=
  ⟨ok, hl, fun i x hi j hj => by unfold cellH; rw [hb]; exact hc i x hi j hj⟩

/-- What an append's second argument yields, out of the slice that it is. -/
theorem src_rows {P : Program} {tx e' : TypeId} (hk : P.underlying tx = some (.slice e')) (hc : 0 < c) [he : Enc enc c] {w : World} {s : Sv} {xs : List α} (r : Lies enc c (hp w) s xs) : Src P c tx s.val xs.length (flatR enc xs) w := by
  cases hn : s.nil with
  | true =>
    have : xs = [] := by have := (r.ok.nil hn).1; rw [r.len] at this; exact List.length_eq_zero_iff.1 this
    subst this
    rw [Sv.val_nil hn]
    exact Src.ofNil w hk 0
  | false =>
    rw [Sv.val_some hn, r.len]
    refine Src.ofSlice w hk _ _ _ _ (flatR_length xs) (fun j u hu => ?_) (flatR_one xs)
    obtain ⟨x, hx, hu'⟩ := flatR_div hc hu
    have hsp := r.ok.sp (by have h1 := Nat.lt_of_le_of_lt (Nat.zero_le _) (List.getElem?_eq_some_iff.1 hx).1; have := r.len; have := r.ok.le; omega)
    rw [hsp, Addr.add_none, cell_hp, ← hu', ← r.row _ x hx (j % c) (Nat.mod_lt _ hc)]
    congr 1
    have := Nat.div_add_mod j c
    rw [Nat.mul_comm] at this; omega

/-- append, to a slice of the call's own. -/
theorem append_own {P : Program} {t tx ty e : TypeId} {by' : Nat} (ht : SlT P t e c by') (hc : 0 < c) [he : Enc enc c] {w0 w : World} {L : List Ent} {i : Nat} {s : Sv} {xs ys : List α} {x : Value}
    (hw : Mem w0 L w) (hi : L[i]? = some (own enc c s xs)) (hs : Src P c tx x ys.length (flatR enc ys) w) (hb : (xs.length + ys.length) * by' ≤ 140737488355328) (h63 : xs.length + ys.length ≤ 140737488355328) :
    ∃ s' w', (Builtin.append_ #[t, tx] ty #[s.val, x]).run P w = .ok (Sv.val s') w' ∧ s'.Ok ∧ s'.len = (xs ++ ys).length ∧ Mem w0 (L.set i (own enc c s' (xs ++ ys))) w' := by
  obtain ⟨r, hrow⟩ := hw.get hi
  obtain ⟨i', z, hi1, hi2, hi3, hi4, hzc⟩ := ht.info
  subst hi3 hi4
  have hlen := r.len
  have hle := r.ok.le
  have grow : s.cap < s.len + ys.length → ∀ (base : Option Addr), s.val = .slice base s.len s.cap → (Builtin.firstCells i'.size s.len (.slice base s.len s.cap)).run P w.drew = .ok (flatR enc xs).toArray w.drew →
      ∃ s' w', (Builtin.append_ #[t, tx] ty #[s.val, x]).run P w = .ok (Sv.val s') w' ∧ s'.Ok ∧ s'.len = (xs ++ ys).length ∧ Mem w0 (L.set i (own enc i'.size s' (xs ++ ys))) w' := by
    intro hg base hv hold
    have hcap := nextslicecap_le hg
    have hfit : Builtin.nextslicecap (s.len + ys.length) s.cap * i'.bytes ≤ 281474976710656 := by
      have h2 : Builtin.nextslicecap (s.len + ys.length) s.cap * i'.bytes ≤ 2 * (s.len + ys.length) * i'.bytes := Nat.mul_le_mul_right _ hcap
      rw [Nat.mul_assoc, hlen] at h2
      rw [hlen]; omega
    have hr := run_append_grow_src w t tx ty e i' z ht.und hi1 hi2 base s.len s.cap (flatR enc xs) hold x ys.length (flatR enc ys) hs hg (by omega) hfit
    have hcge := grownCap_ge w (s.len + ys.length) s.cap e
    generalize grownCap w (s.len + ys.length) s.cap e = C at hr hcge
    refine ⟨⟨false, w.heap.size, 0, s.len + ys.length, C, none⟩, _, by rw [hv, hr]; rfl, ⟨(fun h => by cases h), hcge, by simp only; omega, fun _ => rfl⟩, by simp [hlen], hw.swap (At.lt hi) ?_⟩
    have hm := (Mem.init w).drew.alloc ((flatR enc xs ++ flatR enc ys).toArray ++ Builtin.zeroCells z.cells (C - (s.len + ys.length))) e
    refine ⟨hm.below, fun q hq => ?_, fun q hq k hk => ?_, by simp⟩
    · obtain rfl := List.mem_singleton.1 hq
      have hblk : hp (w.drew.alloc (.cells ((flatR enc xs ++ flatR enc ys).toArray ++ Builtin.zeroCells z.cells (C - (s.len + ys.length))) e)) w.heap.size = some (.cells ((flatR enc xs ++ flatR enc ys).toArray ++ Builtin.zeroCells z.cells (C - (s.len + ys.length))) e (0, 0)) := Below.heap_new w.drew _
      have hfl : flatR enc xs ++ flatR enc ys = flatR enc (xs ++ ys) := by simp [flatR]
      rw [hfl] at hblk
      rw [hfl]
      have hsz : (flatR enc (xs ++ ys)).length = (xs.length + ys.length) * i'.size := by rw [flatR_length]; simp
      refine ⟨rows_of (enc := enc) (c := i'.size) (xs := xs ++ ys) ⟨(fun h => by cases h), hcge, by simp only; omega, fun _ => rfl⟩ (by simp [hlen]) hblk fun k y hy j hj => ?_, fun _ => ⟨rfl, _, _, _, hblk, ?_, free_00 _, fun _ => rfl⟩⟩
      · have hg' := flatR_get (enc := enc) (xs ++ ys) k y hy j hj
        have hlt : k * i'.size + j < (flatR enc (xs ++ ys)).length := by
          rw [hsz]
          have h1 := (List.getElem?_eq_some_iff.1 hy).1
          rw [List.length_append] at h1
          calc k * i'.size + j < k * i'.size + i'.size := by omega
            _ = (k + 1) * i'.size := by rw [Nat.add_mul]; omega
            _ ≤ _ := Nat.mul_le_mul_right _ h1
        simp only [Nat.zero_add]
        rw [← hg', Array.getElem?_append_left (by simpa using hlt)]; simp
      · have h3 := size_zeroCells z.cells (C - (s.len + ys.length))
        rw [hzc] at h3
        simp only [Array.size_append, List.size_toArray, h3, hsz, Nat.zero_add]
        rw [← Nat.add_mul, hlen]
        refine Nat.mul_le_mul_right _ ?_
        omega
    · obtain rfl := List.mem_singleton.1 hq
      obtain rfl : k = w.heap.size := hk.2
      simp
  cases hn : s.nil with
  | true =>
    have h0 := r.ok.nil hn
    have hx0 : xs = [] := by rw [hlen] at h0; exact List.length_eq_zero_iff.1 h0.1
    subst hx0
    by_cases hy : ys.length = 0
    · have hy0 : ys = [] := List.length_eq_zero_iff.1 hy
      subst hy0
      refine ⟨s, w, ?_, r.ok, by simpa using hlen, ?_⟩
      · rw [Sv.val_nil hn]
        have hcl := hs.cells
        simp only [List.length_nil] at hcl
        rcases hs.kind with ⟨e', hk⟩ | hk <;> simp [Builtin.append_, run_underlying ht.und, run_underlying hk, sizeOf, typeInfo, hi1, hs.len, hcl]
      · have : L.set i (own enc i'.size s ([] ++ [])) = L := by
          rw [List.append_nil]
          refine List.ext_getElem? fun k => ?_
          rw [List.getElem?_set]
          by_cases hk : i = k
          · subst hk; rw [if_pos rfl, hi, if_pos (At.lt hi)]
          · rw [if_neg hk]
        rw [this]; exact hw
    · refine grow (by omega) .none (by rw [Sv.val_nil hn, h0.1, h0.2]) ?_
      rw [h0.1, h0.2]
      exact run_firstCells_none w.drew _ _ _ _
  | false =>
    obtain ⟨hsp, cs, T, fz, hblk, hsz, hfz, hf0⟩ := hrow hn
    by_cases hroom : s.len + ys.length ≤ s.cap
    · have hmul : (s.len + ys.length) * i'.size ≤ s.cap * i'.size := Nat.mul_le_mul_right _ hroom
      have hfl : (flatR enc ys).length = ys.length * i'.size := flatR_length ys
      have hfit : s.o + s.len * i'.size + (flatR enc ys).toArray.size ≤ cs.size := by
        rw [List.size_toArray, hfl]; rw [Nat.add_mul] at hmul; omega
      have hst := run_storeCells_free (P := P) s.b (s.o + s.len * i'.size) T fz (flatR enc ys) 0 cs w hblk hfz (by simpa using hfit) hs.one
      have hst' : (storeCells ⟨s.b, s.o + s.len * i'.size, none⟩ (flatR enc ys)).run P w = .ok () (w.setRow s.b (over cs (s.o + s.len * i'.size) (flatR enc ys).toArray)) := by
        simpa [over] using hst
      refine ⟨{ s with len := s.len + ys.length }, w.setRow s.b (over cs (s.o + s.len * i'.size) (flatR enc ys).toArray), ?_, ⟨(fun h => by rw [hn] at h; cases h), hroom, by simp only; omega, r.ok.sp⟩, by simp [hlen], ?_⟩
      · have hv' : ({ s with len := s.len + ys.length } : Sv).val = .slice (some ⟨s.b, s.o, s.sp⟩) (s.len + ys.length) s.cap := Sv.val_some (s := { s with len := s.len + ys.length }) hn
        rw [Sv.val_some hn, hv', hsp]
        rcases hs.kind with ⟨e', hk⟩ | hk <;> simp [Builtin.append_, run_underlying ht.und, run_underlying hk, sizeOf, typeInfo, hi1, hs.len, hroom, hs.cells, Addr.add_none, hst']
      · have hb' : hp (w.setRow s.b (over cs (s.o + s.len * i'.size) (flatR enc ys).toArray)) s.b = some (.cells (over cs (s.o + s.len * i'.size) (flatR enc ys).toArray) T fz) := setRow_heap w s.b cs _ T fz hblk
        refine hw.change hi (fun k hk => hk) (fun k hk => ?_) (by simp [World.setRow]) ⟨rfl, rfl, rfl⟩ ⟨rows_of ⟨(fun h => by rw [hn] at h; cases h), hroom, by simp only; omega, r.ok.sp⟩ (by simp [hlen]) hb' fun k y hy j hj => ?_, fun _ => ⟨hsp, _, _, _, hb', ?_, by rw [over_size hfit]; exact hfz, hf0⟩⟩
        · exact setRow_other w s.b k _ (fun e => hk ⟨hn, e⟩)
        · rw [cells_over hfit]
          by_cases hk : k < xs.length
          · rw [if_neg, ← r.row k y (by rw [List.getElem?_append_left hk] at hy; exact hy) j hj]
            · unfold cellH; rw [hblk]
            · have : (k + 1) * i'.size ≤ s.len * i'.size := Nat.mul_le_mul_right _ (by omega)
              rw [Nat.add_mul] at this
              intro h; have := h.1; simp only at this; omega
          · rw [List.getElem?_append_right (by omega)] at hy
            have hg' := flatR_get (enc := enc) ys (k - xs.length) y hy j hj
            have hk2 : s.len * i'.size + (k - xs.length) * i'.size = k * i'.size := by rw [← Nat.add_mul]; congr 1; omega
            have hlt : (k - xs.length + 1) * i'.size ≤ ys.length * i'.size := Nat.mul_le_mul_right _ (by have := (List.getElem?_eq_some_iff.1 hy).1; omega)
            rw [Nat.add_mul] at hlt
            rw [if_pos ⟨by simp only; omega, by rw [List.size_toArray, hfl]; simp only; omega⟩, ← hg']
            simp only [List.getElem?_toArray]
            congr 1; omega
        · rw [over_size hfit]; exact hsz
    · refine grow (by omega) _ (by rw [Sv.val_some hn, hsp]) ?_
      refine run_firstCells_some w.drew _ _ _ _ _ _ (by rw [flatR_length, hlen]) fun j u hu => ?_
      obtain ⟨y, hy, hu'⟩ := flatR_div hc hu
      have := r.row _ y hy (j % i'.size) (Nat.mod_lt _ hc)
      rw [hu'] at this
      rw [Addr.add_none]
      show w.cell? _ = _
      rw [cell_hp, ← this]
      congr 1
      have h9 := Nat.div_add_mod j i'.size
      rw [Nat.mul_comm] at h9; omega

theorem foldl_over (off : Nat) : ∀ (vs : List Value) (k : Nat) (cs : Array Value), off + k + vs.length ≤ cs.size →
    (vs.zipIdx k).foldl (fun cs (p : Value × Nat) => cs.setIfInBounds (off + p.2) p.1) cs = (cs.toList.take (off + k) ++ vs ++ cs.toList.drop (off + k + vs.length)).toArray
  | [], k, cs, _ => by simp
  | v :: vs, k, cs, h => by
    simp only [List.zipIdx_cons, List.foldl_cons, List.length_cons] at h ⊢
    rw [foldl_over off vs (k + 1) _ (by simp; omega)]
    apply Array.ext'
    have e1 : (cs.setIfInBounds (off + k) v).toList = cs.toList.set (off + k) v := by simp
    rw [e1]
    have hlt : off + k < cs.toList.length := by simp; omega
    have e2 : (cs.toList.set (off + k) v).take (off + (k + 1)) = cs.toList.take (off + k) ++ [v] := by
      rw [← Nat.add_assoc, List.take_add_one, List.take_set_of_le (Nat.le_refl _), List.getElem?_set_self hlt]
      rfl
    have e3 : (cs.toList.set (off + k) v).drop (off + (k + 1) + vs.length) = cs.toList.drop (off + k + (vs.length + 1)) := by
      rw [List.drop_set_of_lt (by omega)]; congr 1; omega
    rw [e2, e3]; simp

def idx (vals : List Value) (i : Nat) : List (Nat × Value) := (vals.zipIdx i).map fun p => (p.2, p.1)

theorem fill_rows [he : Enc enc c] : ∀ (xs : List α) (vals : List Value) (i : Nat) (cs : Array Value), vals.map Value.cells = xs.map enc → i * c + xs.length * c ≤ cs.size →
    Instr.fill (fun i => some (i * c, c)) cs (idx vals i) = some (cs.toList.take (i * c) ++ flatR enc xs ++ cs.toList.drop (i * c + xs.length * c)).toArray
  | [], [], i, cs, _, _ => by simp [idx, Instr.fill, flatR]
  | [], _ :: _, _, _, h, _ => by simp at h
  | _ :: _, [], _, _, h, _ => by simp at h
  | x :: xs, v :: vals, i, cs, h, hs => by
    simp only [List.map_cons, List.cons.injEq] at h
    obtain ⟨h1, h2⟩ := h
    have hsz : v.cells.size = c := by rw [h1]; exact he.size x
    rw [List.length_cons, Nat.add_mul, Nat.one_mul] at hs
    simp only [idx, List.zipIdx_cons, List.map_cons, Instr.fill, hsz]
    rw [if_neg (by simp; omega)]
    have ef : v.cells.zipIdx.foldl (fun cs (p : Value × Nat) => cs.setIfInBounds (i * c + p.2) p.1) cs = (cs.toList.take (i * c) ++ v.cells.toList ++ cs.toList.drop (i * c + c)).toArray := by
      have := foldl_over (i * c) v.cells.toList 0 cs (by simp; omega)
      simp only [Nat.add_zero] at this
      rw [← Array.foldl_toList, Array.toList_zipIdx, this]
      simp [hsz]
    have ef' : (v.cells.zipIdx.foldl (fun cs (x : Value × Nat) => match x with | (c', j) => cs.setIfInBounds (i * c + j) c') cs) = (cs.toList.take (i * c) ++ v.cells.toList ++ cs.toList.drop (i * c + c)).toArray := ef
    rw [ef']
    have hl1 : (cs.toList.take (i * c) ++ v.cells.toList).length = (i + 1) * c := by simp [hsz, Nat.add_mul]; omega
    have := fill_rows xs vals (i + 1) (cs.toList.take (i * c) ++ v.cells.toList ++ cs.toList.drop (i * c + c)).toArray h2 (by simp [hsz, Nat.add_mul]; omega)
    unfold idx at this
    rw [this]
    congr 1
    apply Array.ext'

    rw [List.take_left' hl1, ← List.drop_drop (j := (i + 1) * c) (i := xs.length * c), List.drop_left' hl1]
    simp only [flatR, List.flatMap_cons, h1, List.append_assoc, List.append_cancel_left_eq]
    rw [List.drop_drop, List.length_cons, show i * c + c + xs.length * c = i * c + (xs.length + 1) * c by rw [Nat.add_mul]; omega]
end

section
variable {P : Program} {N : Fra} {w0 : World} {env : Env} {L : List Ent} {l : List Oper} {Q : Exit → Act → World → Prop} {rest : List Oper} {d : Option Tmp} {ty : TypeId} {ps : String} {af : Array Edge}
variable {α : Type} {enc : α → Array Value} {c : Nat} {s : Sv} {xs ys : List α}

/-- The slice s is the call's own. -/
class Owns (L : List Ent) (s : Sv) {α : outParam Type} (enc : outParam (α → Array Value)) (c : outParam Nat) (xs : outParam (List α)) (i : outParam Nat) : Prop where
  h : L[i]? = some (own enc c s xs)
instance (priority := high) Owns.here {L : List Ent} : Owns (own enc c s xs :: L) s enc c xs 0 := ⟨rfl⟩
instance Owns.there {L : List Ent} {e : Ent} {i : Nat} [q : Owns L s enc c xs i] : Owns (e :: L) s enc c xs (i + 1) := ⟨by simpa using q.h⟩
theorem Owns.holds {i : Nat} (q : Owns L s enc c xs i) : Holds w0 L enc c s xs := fun _ hw => (hw.get q.h).1

theorem Mem.nilOwn {w : World} (enc : α → Array Value) (c : Nat) (h : Mem w0 L w) : Mem w0 (own enc c Sv.none [] :: L) w :=
  h.call (E := [own enc c Sv.none []]) ⟨Below.refl _ _, fun e he => by
    obtain rfl := List.mem_singleton.1 he
    exact ⟨Lies.nil enc c _, (fun h => by cases h)⟩, fun e he k hk => by
    obtain rfl := List.mem_singleton.1 he
    exact absurd hk.1 (by simp [Sv.none]), by simp⟩

theorem sq_append {t tx e : TypeId} {x y : Operand} {yv : Value} {by' i : Nat} [ht : SlT P t e c by'] [he : Enc enc c] (hx : ev env x = some s.val) (hy : ev env y = some yv) [q : Owns L s enc c xs i] (hc : 0 < c)
    (hs : ∀ w, Mem w0 L w → Src P c tx yv ys.length (flatR enc ys) w) (hb : (xs.length + ys.length) * by' ≤ 140737488355328) (h63 : xs.length + ys.length ≤ 140737488355328) {L' : Sv → List Ent} [hu : ∀ s', Upd L i (own enc c s' (xs ++ ys)) (L' s')]
    (hk : ∀ s' : Sv, s'.Ok → s'.len = (xs ++ ys).length → Sq P N w0 l Q rest (putE env d s'.val) (L' s')) (hd : dstOk N d = true := by rfl) :
    Sq P N w0 l Q (⟨d, .call { callee := .builtin .append, args := #[x, y], argTypes := #[t, tx] }, ty, ps, af, none⟩ :: rest) env L :=
  sq_run rfl hd fun a w ha hw => by
    obtain ⟨s', w', h1, h2, h3, h4⟩ := append_own (ty := ty) ht hc hw q.h (hs w hw) hb h63
    refine ⟨s'.val, w', L' s', ?_, by rw [← (hu s').h]; exact h4, hk s' h2 h3⟩
    simp [execOp, ha.ev hx, ha.ev hy, resolve, invoke, builtin, h1, Result.andThen]

/-- A row of cells that the call has just laid. -/
theorem mem_new {w : World} {b : Nat} {cs : Array Value} {e : TypeId} (hb : b = w.heap.size) (n cap : Nat) (hn : n = xs.length) (hle : n ≤ cap) (h63 : n ≤ 140737488355328) (hsz : cap * c ≤ cs.size) (hc : ∀ i x, xs[i]? = some x → ∀ j, j < c → cs[i * c + j]? = (enc x)[j]?) :
    Mem w [own enc c ⟨false, b, 0, n, cap, none⟩ xs] (w.alloc (.cells cs e)) := by
  subst hb
  have hm := (Mem.init w).alloc cs e
  have hblk : hp (w.alloc (.cells cs e)) w.heap.size = some (.cells cs e (0, 0)) := Below.heap_new w _
  refine ⟨hm.below, fun q hq => ?_, fun q hq k hk => ?_, by simp⟩
  · obtain rfl := List.mem_singleton.1 hq
    exact ⟨rows_of ⟨(fun h => by cases h), hle, h63, fun _ => rfl⟩ hn hblk (by simpa using hc), fun _ => ⟨rfl, _, _, _, hblk, by simpa using hsz, free_00 _, fun _ => rfl⟩⟩
  · obtain rfl := List.mem_singleton.1 hq
    obtain rfl : k = w.heap.size := hk.2
    simp

theorem len24 {n c : Nat} (h0 : 0 < n * c) (h : n * c ≤ 16777216) : n ≤ 140737488355328 := by
  have : n * 1 ≤ n * c := Nat.mul_le_mul_left _ (by rcases Nat.eq_zero_or_pos c with rfl | h'; · simp at h0
                                                    · exact h')
  omega

theorem run_buildSlice {t e : TypeId} {by' : Nat} (ht : SlT P t e c by') [he : Enc enc c] {vals : List Value} (hv : vals.map Value.cells = xs.map enc) (hc : 0 < xs.length * c) (h24 : xs.length * c ≤ 16777216) (w : World) :
    (Instr.buildSlice t xs.length (idx vals 0).toArray).run P w = .ok (.slice (some ⟨w.heap.size, 0, none⟩) xs.length xs.length) (w.alloc (.cells (flatR enc xs).toArray e)) := by
  obtain ⟨i', z, hi1, hi2, hi3, hi4, hzc⟩ := ht.info
  subst hi3
  have hf := fill_rows (enc := enc) (c := i'.size) xs vals 0 ((Array.range (xs.length * i'.size)).map (z.cells[· % z.cells.size]!)) hv (by simp)
  have hdrop : ((Array.range (xs.length * i'.size)).map (z.cells[· % z.cells.size]!)).toList.drop (0 * i'.size + xs.length * i'.size) = [] := by simp
  rw [hdrop] at hf
  simp only [Nat.zero_mul, List.take_zero, List.nil_append, List.append_nil] at hf
  have n1 : ¬ xs.length * i'.size > 2 ^ 24 := by omega
  have n2 : ¬ xs.length * i'.size = 0 := by omega
  simp [Instr.buildSlice, run_underlying ht.und, sizeOf, typeInfo, zeroValue, hi1, hi2, n1, n2, hf, newRow, newObj, Sem.run, Result.andThen]

theorem sq_buildSlice {t e : TypeId} {by' n : Nat} [ht : SlT P t e c by'] [he : Enc enc c] {ops : List (Nat × Operand)} {vals : List Value} (xs : List α) (hx : evp env ops = some (idx vals 0)) (hv : vals.map Value.cells = xs.map enc) (hn : xs.length = n) (hc : 0 < n * c) (h24 : n * c ≤ 16777216)
    (hk : ∀ b, Sq P N w0 l Q rest (putE env d (Sv.val ⟨false, b, 0, n, n, none⟩)) (own enc c ⟨false, b, 0, n, n, none⟩ xs :: L)) (hd : dstOk N d = true := by rfl) :
    Sq P N w0 l Q (⟨d, .buildSlice t n ops.toArray, ty, ps, af, none⟩ :: rest) env L :=
  sq_run rfl hd fun a w ha hw => by
    subst hn
    have e1 : (ops.toArray.map fun (p : Nat × Operand) => match p with | (i, x) => (i, a.eval x)) = (idx vals 0).toArray := by
      rw [← ha.evp hx]; simp
    refine ⟨_, _, _, ?_, hw.call (mem_new (enc := enc) (c := c) (xs := xs) (cs := (flatR enc xs).toArray) (e := e) rfl xs.length xs.length rfl (Nat.le_refl _) (len24 hc h24) (by simp [flatR_length]) fun i x hx j hj => by rw [← flatR_get (enc := enc) xs i x hx j hj]; simp), hk _⟩
    simp only [execOp, e1, Sem.run_bind, run_buildSlice ht hv hc h24 w, Result.andThen, Sem.run_pure]; rfl
theorem fr_buildSlice {Lq : List Ent} {n' j : Nat} {js : List Nat} {t e : TypeId} {by' n : Nat} {ops : List (Nat × Operand)} (hj : l[j]? = some ⟨d, .buildSlice t n ops.toArray, ty, ps, af, none⟩) [ht : SlT P t e c by'] [he : Enc enc c] {vals : List Value} (xs : List α) (hx : evp env ops = some (idx vals 0)) (hv : vals.map Value.cells = xs.map enc) (hn : xs.length = n) (hc : 0 < n * c) (h24 : n * c ≤ 16777216)
    (hk : ∀ b, Fr P N w0 Lq l n' Q js (putE env d (Sv.val ⟨false, b, 0, n, n, none⟩)) (own enc c ⟨false, b, 0, n, n, none⟩ xs :: L)) (hd : dstOk N d = true := by rfl) :
    Fr P N w0 Lq l n' Q (j :: js) env L :=
  fr_run hj rfl hd fun a w ha hw => by
    subst hn
    have e1 : (ops.toArray.map fun (p : Nat × Operand) => match p with | (i, x) => (i, a.eval x)) = (idx vals 0).toArray := by
      rw [← ha.evp hx]; simp
    refine ⟨_, _, [own enc c ⟨false, w.heap.size, 0, xs.length, xs.length, none⟩ xs], ?_, mem_new (enc := enc) (c := c) (xs := xs) (cs := (flatR enc xs).toArray) (e := e) rfl xs.length xs.length rfl (Nat.le_refl _) (len24 hc h24) (by simp [flatR_length]) fun i x hx j hj => by rw [← flatR_get (enc := enc) xs i x hx j hj]; simp, hk _⟩
    simp only [execOp, e1, Sem.run_bind, run_buildSlice ht hv hc h24 w, Result.andThen, Sem.run_pure]; rfl

theorem madeCells_get {zc : Array Value} (m n : Nat) (h : zc.size = c) (i j : Nat) (hi : i < n) (hj : j < c) (hm : n * c ≤ m) : (madeCells zc m)[i * c + j]? = zc[j]? := by
  have hlt : i * c + j < m := by
    have : (i + 1) * c ≤ n * c := Nat.mul_le_mul_right _ hi
    rw [Nat.add_mul] at this; omega
  have e1 : (i * c + j) % zc.size = j := by rw [h, Nat.mul_comm, Nat.mul_add_mod]; exact Nat.mod_eq_of_lt hj
  have hz : j < zc.size := by omega
  simp [madeCells, hlt, e1, hz]

/-- make: n elements, all zero, and room for cap. -/
theorem run_makeS {t e : TypeId} {by' n cap : Nat} {z : Value} (ht : SlT P t e c by') (hz : ZeroT P e z) {k k' : IntKind} (x0 : α) (h0 : enc x0 = z.cells) (hle : n ≤ cap) (hb : by' * cap ≤ 281474976710656) (h63 : cap ≤ 140737488355328) (w : World) :
    ∃ w', (Instr.makeSlice t (.int k n) (.int k' cap)).run P w = .ok (Sv.val ⟨false, w.heap.size, 0, n, cap, none⟩) w' ∧ Mem w [own enc c ⟨false, w.heap.size, 0, n, cap, none⟩ (List.replicate n x0)] w' := by
  obtain ⟨i', z', hi1, hi2, hi3, hi4, hzc⟩ := ht.info
  obtain rfl : z' = z := by
    have := hz.zero
    rw [hi1, Option.map_some, hi2] at this; exact Option.some.inj (Option.some.inj this)
  subst hi3 hi4
  have hb' : (i'.bytes : Int) * (cap : Int) ≤ 281474976710656 := by
    have h : ((i'.bytes * cap : Nat) : Int) ≤ 281474976710656 := by omega
    rwa [Int.natCast_mul] at h
  have hr := run_make (P := P) w t e i' _ ht.und hi1 hi2 k k' n cap (by omega) (by omega) hb' (by omega)
  simp only [Int.toNat_natCast] at hr
  refine ⟨_, hr, mem_new rfl n cap (by simp) hle (by omega) (by simp [size_madeCells]) fun i x hx j hj => ?_⟩
  have hi : i < n := by
    have := (List.getElem?_eq_some_iff.1 hx).1
    simpa using this
  obtain rfl : x0 = x := by rw [List.getElem?_replicate, if_pos hi] at hx; exact Option.some.inj hx
  rw [h0]
  exact madeCells_get _ n hzc i j hi hj (Nat.mul_le_mul_right _ hle)
theorem sq_makeS {t e : TypeId} {by' n cap : Nat} {z : Value} {x y : Operand} {k k' : IntKind} {ix iy : Int} [ht : SlT P t e c by'] [hz : ZeroT P e z] (x0 : α) (h0 : enc x0 = z.cells) (hx : ev env x = some (.int k ix)) (hy : ev env y = some (.int k' iy)) (ex : ix = (n : Int)) (ey : iy = (cap : Int)) (hle : n ≤ cap) (hb : by' * cap ≤ 281474976710656) (h63 : cap ≤ 140737488355328)
    (hk : ∀ b, Sq P N w0 l Q rest (putE env d (Sv.val ⟨false, b, 0, n, cap, none⟩)) (own enc c ⟨false, b, 0, n, cap, none⟩ (List.replicate n x0) :: L)) (hd : dstOk N d = true := by rfl) :
    Sq P N w0 l Q (⟨d, .makeSlice t x y, ty, ps, af, none⟩ :: rest) env L :=
  sq_run rfl hd fun a w ha hw => by
    subst ex ey
    obtain ⟨w', h1, h2⟩ := run_makeS ht hz (k := k) (k' := k') (n := n) x0 h0 hle hb h63 w
    exact ⟨_, w', _, by simp only [execOp, ha.ev hx, ha.ev hy, Sem.run_bind, h1, Result.andThen, Sem.run_pure], hw.call h2, hk _⟩

/-- A store into element i of a slice of the call's own, from cell j of it on. -/
theorem mem_store {w : World} {L' : List Ent} {i k j : Nat} {a a' : α} {vs : Array Value} [he : Enc enc c] (hw : Mem w0 L w) (q : Owns L s enc c xs i) (ha : xs[k]? = some a) (hv : vs.all (·.oneCell') = true) (hj : j + vs.size ≤ c) (he' : over (enc a) j vs = enc a') (hu : Upd L i (own enc c s (xs.set k a')) L') :
    ∃ w', (storeCells ⟨s.b, s.o + k * c + j, none⟩ vs.toList).run P w = .ok () w' ∧ Mem w0 L' w' := by
  obtain ⟨r, hrow⟩ := hw.get q.h
  have hk : k < xs.length := (List.getElem?_eq_some_iff.1 ha).1
  have hn := r.some hk
  have hle := r.ok.le
  have hlen := r.len
  obtain ⟨hsp, cs, T, fz, hblk, hsz, hfz, hf0⟩ := hrow hn
  have hmul : (k + 1) * c ≤ s.cap * c := Nat.mul_le_mul_right _ (by omega)
  have hmul' := hmul
  rw [Nat.add_mul] at hmul
  have hfit : s.o + k * c + j + vs.size ≤ cs.size := by omega
  have hst := run_storeCells_free (P := P) s.b (s.o + k * c + j) T fz vs.toList 0 cs w hblk hfz (by simpa using hfit) (fun v hv' => (Array.all_eq_true_iff_forall_mem.1 hv) v (by simpa using hv'))
  refine ⟨w.setRow s.b (over cs (s.o + k * c + j) vs), by simpa [over] using hst, ?_⟩
  have hb' : hp (w.setRow s.b (over cs (s.o + k * c + j) vs)) s.b = some (.cells (over cs (s.o + k * c + j) vs) T fz) := setRow_heap w s.b cs _ T fz hblk
  rw [← hu.h]
  refine hw.change q.h (fun k hk => hk) (fun x hx => setRow_other w s.b x _ (fun e => hx ⟨hn, e⟩)) (by simp [World.setRow]) ⟨rfl, rfl, rfl⟩ ⟨rows_of r.ok (by simpa using hlen) hb' fun x y hy p hp' => ?_, fun _ => ⟨hsp, _, _, _, hb', by rw [over_size hfit]; exact hsz, by rw [over_size hfit]; exact hfz, hf0⟩⟩
  rw [cells_over hfit]
  by_cases hxk : x = k
  · subst hxk
    obtain rfl : a' = y := by rw [List.getElem?_set_self hk] at hy; exact Option.some.inj hy
    rw [← he', cells_over (by rw [he.size]; exact hj)]
    by_cases h1 : j ≤ p ∧ p < j + vs.size
    · rw [if_pos h1, if_pos (by omega)]; congr 1; omega
    · rw [if_neg h1, if_neg (by omega), ← r.row x a ha p hp']
      unfold cellH; rw [hblk]
  · rw [List.getElem?_set_ne (by omega)] at hy
    rw [if_neg, ← r.row x y hy p hp']
    · unfold cellH; rw [hblk]
    · intro h
      rcases Nat.lt_or_gt_of_ne hxk with h' | h'
      · have : (x + 1) * c ≤ k * c := Nat.mul_le_mul_right _ h'
        rw [Nat.add_mul] at this; omega
      · have : (k + 1) * c ≤ x * c := Nat.mul_le_mul_right _ h'
        rw [Nat.add_mul] at this; omega
theorem sq_storeS {t : TypeId} {x y : Operand} {i k j n p : Nat} {a a' : α} {v : Value} (sz : (P.info? t).map (·.size) = some n) [he : Enc enc c] (hx : ev env x = some (.pointer (some ⟨s.b, p, none⟩))) (hy : ev env y = some v) [q : Owns L s enc c xs i] (hp' : p = s.o + k * c + j)
    (ha : xs[k]? = some a) (hv : v.cells.all (·.oneCell') = true) (hn : v.cells.size = n) (hj : j + n ≤ c) (he' : over (enc a) j v.cells = enc a') {L' : List Ent} [hu : Upd L i (own enc c s (xs.set k a')) L'] (hk : Sq P N w0 l Q rest env L') :
    Sq P N w0 l Q (⟨none, .store t x y, ty, ps, af, none⟩ :: rest) env L :=
  sq_run_skip rfl rfl fun aa w haa hw => by
    subst hp' hn
    obtain ⟨w', h1, h2⟩ := mem_store (P := P) hw q ha hv hj he' hu
    refine ⟨w', _, ?_, h2, hk⟩
    simp only [execOp, haa.ev hx, haa.ev hy, Instr.storeAt, Instr.sureAddr, storeVar, Sem.run_bind, Sem.run_pure, Result.andThen, run_sizeOf' w sz]
    simp [h1]

/-- A call, in general: what it leaves is told anew. -/
theorem sq_callG {X : Type} {val : X → Value} {L' : X → List Ent} {pr : X → Prop} {f : FuncId} {xs : List Operand} {ts : Array TypeId} {vs : List Value} [hf : IsFn P f] (hx : evl env xs = some vs)
    (hc : ∀ w, Mem w0 L w → Calls P f vs.toArray w fun e w' => ∃ x, e = .returned (val x) ∧ pr x ∧ Mem w0 (L' x) w') (hk : ∀ x, pr x → Sq P N w0 l Q rest (putE env d (val x)) (L' x)) (hd : dstOk N d = true := by rfl) :
    Sq P N w0 l Q (⟨d, .call { callee := .value (.func f), args := xs.toArray, argTypes := ts }, ty, ps, af, none⟩ :: rest) env L := fun a w ha hw => by
  unfold wpList
  rw [if_pos (wanted_none rfl)]
  refine .inl ?_
  unfold Oper.wp
  rw [run_call hf w rfl, ha.evl hx]
  exact (hc w hw).mono fun e w' ⟨x, he, hp, hm⟩ => by subst he; exact hk x hp _ _ (ha.put hd _) hm
/-- A call whose arguments' memory is part of L. -/
theorem calls_in {N : Nat} {fn : Func} {R : Ending → World → Prop} {f : FuncId} {c : Code} {args : List Value} {w : World} (hf : P.funcs[f]? = some fn) (hb : fn.body = some c) (hN : fn.ntmps = N) (hle : Nat.ble args.length N = true) (hw : Mem w0 L w)
    (h : Cw P ⟨N, [], none⟩ w0 (endPost P fn R) c (args.zipIdx.map fun p => (p.2, p.1)) L) : Calls P f args.toArray w R :=
  calls_of_end hf hb (h _ _ (by rw [hN]; exact Rep.enter args N (Nat.le_of_ble_eq_true hle)) hw)
/-- A block of the call's own, as a slice over all of it. -/
theorem holds_blk {b n i : Nat} {cs : Array Value} {T : TypeId} [hi : Has L b cs T i] [he : Enc enc c] (hcs : cs = (flatR enc xs).toArray) (hn : xs.length = n) (h63 : n ≤ 140737488355328 := by decide) : Holds w0 L enc c ⟨false, b, 0, n, n, none⟩ xs := fun w hw => by
  have hb := hw.block hi.h
  exact rows_of ⟨(fun h => by cases h), Nat.le_refl _, h63, fun _ => rfl⟩ hn.symm hb fun k x hx j hj => by
    rw [← flatR_get (enc := enc) xs k x hx j hj, hcs]; simp

/-- A nil slice is the call's own. -/
theorem sq_own0 (enc : α → Array Value) (c : Nat) (h : Sq P N w0 l Q rest env (own enc c Sv.none [] :: L)) : Sq P N w0 l Q rest env L := fun a w ha hw => h a w ha (hw.nilOwn enc c)

/-! Results. -/
def rvRun (tmps : Array Value) (r : ResultVar) : Sem Value := match r with
  | .tmp t => pure (tmps.getD t undef)
  | .cell c t => do loadVar t (← asAddr (tmps.getD c undef))
theorem results_eq (fn : Func) (tmps : Array Value) : results fn tmps = (do let vs ← fn.results.mapM (rvRun tmps); pure (if h : vs.size = 1 then vs[0] else .tuple vs)) := by
  have : (fun r => rvRun tmps r) = (fun | .tmp t => pure (tmps.getD t undef) | .cell a t => do loadVar t (← asAddr (tmps.getD a undef)) : ResultVar → Sem Value) := by
    funext r; cases r <;> rfl
  show _ = (do let vs ← fn.results.mapM (fun r => rvRun tmps r); pure (if h : vs.size = 1 then vs[0] else .tuple vs))
  rw [this]; rfl
def RV (P : Program) (N : Fra) (w0 : World) (env : Env) (L : List Ent) (r : ResultVar) (v : Value) : Prop := ∀ a w, Rep N env a → Mem w0 L w → (rvRun a.tmps r).run P w = .ok v w
theorem rv_tmp {t : Nat} {v : Value} (hv : look env t = some v) : RV P N w0 env L (.tmp t) v := fun a w ha _ => by
  have := ha.get _ _ hv
  simp [rvRun, this]
theorem rv_agg {t b i n : Nat} {T T' : TypeId} {cs : Array Value} (hv : look env t = some (.pointer (some ⟨b, 0, none⟩))) [ht : RowT P T n] [hi : Has L b cs T' i] [hn : SizeIs cs n] : RV P N w0 env L (.cell t T) (.agg cs) := fun a w ha hw => by
  have h1 := ha.get _ _ hv
  have h2 : (loadVar T ⟨b, 0, none⟩).run P w = .ok (.agg cs) w := run_loadVar_agg w ht hn.h fun j _ => by rw [Addr.add_none, hw.cell hi.h, Nat.zero_add]
  simp [rvRun, h1, asAddr, h2]
theorem rv_one {t b i : Nat} {T T' : TypeId} {cs : Array Value} {v : Value} (hv : look env t = some (.pointer (some ⟨b, 0, none⟩))) [ht : OneT P T] [hi : Has L b cs T' i] (hc : cs[0]? = some v) : RV P N w0 env L (.cell t T) v := fun a w ha hw => by
  have h1 := ha.get _ _ hv
  have h2 : (loadVar T ⟨b, 0, none⟩).run P w = .ok v w := run_loadVar_one w ht (by rw [hw.cell hi.h]; exact hc)
  simp [rvRun, h1, asAddr, h2]
variable {fn : Func} {r1 r2 r3 : ResultVar} {v1 v2 v3 : Value}
theorem mapM_2 {A B : Type} (f : A → Sem B) (x y : A) : (#[x, y] : Array A).mapM f = (do let a ← f x; let b ← f y; pure #[a, b]) := by simp
theorem mapM_3 {A B : Type} (f : A → Sem B) (x y z : A) : (#[x, y, z] : Array A).mapM f = (do let a ← f x; let b ← f y; let c ← f z; pure #[a, b, c]) := by simp
theorem res_1 (hf : fn.results = #[r1]) (h1 : RV P N w0 env L r1 v1) : ∀ a w, Rep N env a → Mem w0 L w → (results fn a.tmps).run P w = .ok v1 w := fun a w ha hw => by
  have e1 := h1 a w ha hw
  rw [results_eq, hf]
  simp [e1]
theorem res_2 (hf : fn.results = #[r1, r2]) (h1 : RV P N w0 env L r1 v1) (h2 : RV P N w0 env L r2 v2) : ∀ a w, Rep N env a → Mem w0 L w → (results fn a.tmps).run P w = .ok (.tuple #[v1, v2]) w := fun a w ha hw => by
  have e1 := h1 a w ha hw
  have e2 := h2 a w ha hw
  rw [results_eq, hf, mapM_2]
  simp [e1, e2]
theorem res_3 (hf : fn.results = #[r1, r2, r3]) (h1 : RV P N w0 env L r1 v1) (h2 : RV P N w0 env L r2 v2) (h3 : RV P N w0 env L r3 v3) : ∀ a w, Rep N env a → Mem w0 L w → (results fn a.tmps).run P w = .ok (.tuple #[v1, v2, v3]) w := fun a w ha hw => by
  have e1 := h1 a w ha hw
  have e2 := h2 a w ha hw
  have e3 := h3 a w ha hw
  rw [results_eq, hf, mapM_3]
  simp [e1, e2, e3]
end
end Go.Eng

/- Bytes: as cells, in slices, as numbers. -/
set_option linter.unusedSimpArgs false
set_option linter.unusedVariables false
namespace Go.Eng

def benc (b : UInt8) : Array Value := #[.int .u8 b.toNat]
instance : Enc benc 1 := ⟨fun _ => rfl, fun _ => by simp [benc, Value.oneCell']⟩
instance (b : UInt8) : CellAt (benc b) 0 (.int .u8 b.toNat) := ⟨rfl⟩
/-- A slice, as an element. -/
def senc (s : Sv) : Array Value := #[s.val]
instance : Enc senc 1 := ⟨fun _ => rfl, fun s => by simp [senc, Sv.one]⟩
/-- A slice of slices of bytes. -/
structure Lies2 (h : Nat → Option Obj) (s : Sv) (ss : List Sv) (xss : List (List UInt8)) : Prop where
  out : Lies senc 1 h s ss
  len : ss.length = xss.length
  row : ∀ (i : Nat) t, ss[i]? = some t → ∃ xs, xss[i]? = some xs ∧ Lies benc 1 h t xs

/-- A number's last byte. -/
def b8 (n : Nat) : UInt8 := UInt8.ofNat n
theorem b8_toNat (n : Nat) : (b8 n).toNat = n % 256 := by simp [b8]
theorem b8_mod (n : Nat) : b8 (n % 256) = b8 n := by
  apply UInt8.toNat_inj.1; simp [b8_toNat]
theorem wrap_b8 (n : Nat) : IntKind.u8.wrap (n : Int) = ((b8 n).toNat : Int) := by
  rw [b8_toNat]; simp [IntKind.wrap, IntKind.bits, IntKind.signed]
theorem b8_of (b : UInt8) : b8 b.toNat = b := by
  apply UInt8.toNat_inj.1; rw [b8_toNat]; have := b.toNat_lt; omega

/-- The last `many` bytes of a number, the greatest first. -/
def be (n : Nat) : Nat → List UInt8
  | 0 => []
  | k + 1 => b8 (n / 256 ^ k) :: be n k
theorem be_length (n : Nat) : ∀ k, (be n k).length = k
  | 0 => rfl
  | k + 1 => by simp [be, be_length n k]

/-- Bytes as a number. -/
def de (l : List UInt8) : Nat := l.foldl (fun a b => a * 256 + b.toNat) 0
theorem de_succ {xs : List UInt8} {i : Nat} {b : UInt8} (h : xs[i]? = some b) : de (xs.take (i + 1)) = de (xs.take i) * 256 + b.toNat := by
  rw [List.take_add_one, h]; simp [de]
theorem de_lt (xs : List UInt8) : ∀ i, i ≤ xs.length → de (xs.take i) < 256 ^ i
  | 0, _ => by simp [de]
  | i + 1, h => by
    have := de_lt xs i (by omega)
    rw [de_succ (b := xs[i]) (by simp), Nat.pow_succ]
    have := xs[i].toNat_lt; omega
section
variable {P : Program} {N : Fra} {w0 : World} {env : Env} {L : List Ent} {d : Option Tmp} {ty : TypeId} {ps : String} {af : Array Edge} {gd : Option (Nat × Bool)}
variable {x y : Operand} {k k' : IntKind} {p q : Nat} {t u s : TypeId}
theorem ry_quon {a b : Int} (hx : ev env x = some (.int k a)) (hy : ev env y = some (.int k b)) (ea : a = p) (eb : b = q) (hp : p < 2 ^ nb k) (hq : 0 < q) :
    Ry P N w0 env L ⟨d, .binOp .quo t x y u, ty, ps, af, gd⟩ (.int k ((p / q : Nat) : Int)) := ry_int hx hy (by
  subst ea eb
  rw [intOp, if_neg (by omega), ← Int.ofNat_tdiv, wrap_nat (Nat.lt_of_le_of_lt (Nat.div_le_self _ _) hp)])
theorem ry_remn {a b : Int} (hx : ev env x = some (.int k a)) (hy : ev env y = some (.int k b)) (ea : a = p) (eb : b = q) (hq : 0 < q) :
    Ry P N w0 env L ⟨d, .binOp .rem t x y u, ty, ps, af, gd⟩ (.int k ((p % q : Nat) : Int)) := ry_int hx hy (by
  subst ea eb
  rw [intOp, if_neg (by omega), ← Int.ofNat_tmod])
theorem ry_muln {a b : Int} (hx : ev env x = some (.int k a)) (hy : ev env y = some (.int k b)) (ea : a = p) (eb : b = q) (h : p * q < 2 ^ nb k) :
    Ry P N w0 env L ⟨d, .binOp .mul t x y u, ty, ps, af, gd⟩ (.int k ((p * q : Nat) : Int)) := ry_int hx hy (by
  subst ea eb
  rw [intOp, ← Int.natCast_mul, wrap_nat h])
/-- A number as a byte. -/
theorem ry_conv8 {n : Nat} {a : Int} [hs : IntT P s k'] [ht : IntT P t .u8] (hx : ev env x = some (.int k' a)) (ea : a = n) :
    Ry P N w0 env L ⟨d, .convert s t x, ty, ps, af, gd⟩ (.int .u8 (b8 n).toNat) := ry_conv hx (by subst ea; exact wrap_b8 n)
/-- Bytes as a text. -/
theorem ry_bstr {e : TypeId} {sv : Sv} {xs : List UInt8} (hs : P.underlying s = some (.slice e)) (he : P.underlying e = some (.int .u8)) (hd : P.underlying t = some .string) (hx : ev env x = some sv.val) (hR : Holds w0 L benc 1 sv xs) :
    Ry P N w0 env L ⟨d, .convert s t x, ty, ps, af, gd⟩ (.string ⟨xs.toArray⟩) := fun a w ha hw => by
  have r := hR w hw
  have hr : (convert s t sv.val).run P w = .ok (.string ⟨xs.toArray⟩) w := by
    cases hn : sv.nil with
    | true =>
      have : xs = [] := by have := (r.ok.nil hn).1; rw [r.len] at this; exact List.length_eq_zero_iff.1 this
      subst this
      rw [Sv.val_nil hn, run_convert_bytes_string w s t e none 0 0 hs he hd]
      rfl
    | false =>
      rw [Sv.val_some hn, r.len]
      refine run_convert_bytes_back w s t e _ _ xs hs he hd fun j hj => ?_
      rw [r.ok.sp (by have := r.len; have := r.ok.le; omega)]
      rw [Addr.add_none, cell_hp]
      have := r.row j xs[j] (by simp) 0 (by decide)
      simp only [Nat.mul_one, Nat.add_zero] at this
      rw [this]; rfl
  simp only [execOp, ha.ev hx, Sem.run_bind, hr, Result.andThen, Sem.run_pure]
theorem ry_streql {a b : ByteArray} (hx : ev env x = some (.string a)) (hy : ev env y = some (.string b)) :
    Ry P N w0 env L ⟨d, .binOp .eql t x y u, ty, ps, af, gd⟩ (.bool (a.toList == b.toList)) := fun aa w ha _ => by
  have h2 : (eqGuard BinOp.eql t x y (.string a) (.string b)).run P w = .ok () w := rfl
  simp only [execOp, ha.ev hx, ha.ev hy, Sem.run_bind, h2, Result.andThen_ok, binOp_string_eql, Sem.run_pure]
theorem ry_strneq {a b : ByteArray} (hx : ev env x = some (.string a)) (hy : ev env y = some (.string b)) :
    Ry P N w0 env L ⟨d, .binOp .neq t x y u, ty, ps, af, gd⟩ (.bool (!(a.toList == b.toList))) := fun aa w ha _ => by
  have h2 : (eqGuard BinOp.neq t x y (.string a) (.string b)).run P w = .ok () w := rfl
  simp only [execOp, ha.ev hx, ha.ev hy, Sem.run_bind, h2, Result.andThen_ok, binOp_string_neq, Sem.run_pure]
end
section
variable {P : Program} {N : Fra} {w0 : World} {env : Env} {L : List Ent} {l : List Oper} {Q : Exit → Act → World → Prop} {rest : List Oper} {d : Option Tmp} {ty : TypeId} {ps : String} {af : Array Edge}
open Go.RowKit in
/-- A text as bytes. -/
theorem run_strb {s t e : TypeId} (hs : P.underlying s = some .string) (hd : P.underlying t = some (.slice e)) (he : P.underlying e = some (.int .u8)) (xs : List UInt8) (hl : xs.length ≤ 140737488355328) (w : World) :
    ∃ sv w', (convert s t (.string ⟨xs.toArray⟩)).run P w = .ok (Sv.val sv) w' ∧ Mem w [own benc 1 sv xs] w' := by
  have hr := run_bytes_of_string (P := P) w s t e ⟨xs.toArray⟩ hs hd he
  have hge := grownCap_ge w xs.length 0 e
  generalize hC : grownCap w (ByteArray.size ⟨xs.toArray⟩) 0 e = C at hr
  have hbs : (⟨xs.toArray⟩ : ByteArray).size = xs.length := by simp [ByteArray.size]
  have hC' : xs.length ≤ C := by rw [← hC, hbs]; exact hge
  rw [hbs] at hr
  refine ⟨⟨false, w.heap.size, 0, xs.length, C, none⟩, _, hr, ?_⟩
  have hsz : (bytesRow ⟨xs.toArray⟩ C).size = C := by rw [bytesRow, hbs]; simp; omega
  generalize hcs : bytesRow ⟨xs.toArray⟩ C = cs at hsz
  have hblk : hp (w.drew.alloc (.cells cs e (cs.size, cs.size + 1))) w.heap.size = some (.cells cs e (cs.size, cs.size + 1)) := Below.heap_new w.drew _
  refine ⟨((Below.refl _ _).drew).alloc (by simp) _, fun q hq => ?_, fun q hq k hk => ?_, by simp⟩
  · obtain rfl := List.mem_singleton.1 hq
    refine ⟨rows_of ⟨(fun h => by cases h), hC', hl, fun _ => rfl⟩ rfl hblk fun i x hx j hj => ?_, fun _ => ⟨rfl, _, _, _, hblk, by simp [hsz], fun j hj h => by have := h.1; simp at this; omega, fun h => by omega⟩⟩
    obtain rfl : j = 0 := by omega
    have hi : i < xs.length := (List.getElem?_eq_some_iff.1 hx).1
    have e1 : xs[i] = x := by simpa [hi] using hx
    simp only [Nat.zero_add, Nat.mul_one, Nat.add_zero]
    rw [← hcs, bytesRow, Array.getElem?_append_left (by simp; exact hi)]
    simp [benc, hi, e1]
  · obtain rfl := List.mem_singleton.1 hq
    obtain rfl : k = w.heap.size := hk.2
    simp
theorem sq_strb {s t e : TypeId} {x : Operand} {xs : List UInt8} (hs : P.underlying s = some .string) (hd : P.underlying t = some (.slice e)) (he : P.underlying e = some (.int .u8)) (hx : ev env x = some (.string ⟨xs.toArray⟩)) (hl : xs.length ≤ 140737488355328)
    (hk : ∀ sv, Sq P N w0 l Q rest (putE env d (Sv.val sv)) (own benc 1 sv xs :: L)) (hdd : dstOk N d = true := by rfl) :
    Sq P N w0 l Q (⟨d, .convert s t x, ty, ps, af, none⟩ :: rest) env L :=
  sq_run rfl hdd fun a w ha hw => by
    obtain ⟨sv, w', h1, h2⟩ := run_strb hs hd he xs hl w
    exact ⟨_, w', _, by simp only [execOp, ha.ev hx, Sem.run_bind, h1, Result.andThen, Sem.run_pure], hw.call h2, hk sv⟩
end

/-- Two bytes as a number. -/
def hop16 (b c : UInt8) : UInt16 := UInt16.ofNat (b.toNat * 256 + c.toNat)
theorem hop16_toNat (b c : UInt8) : (hop16 b c).toNat = b.toNat * 256 + c.toNat := by
  have := b.toNat_lt; have := c.toNat_lt
  simp [hop16]; omega
theorem or_low (p q : Nat) (h : q < 256) : (p * 256) ||| q = p * 256 + q := by
  have := Nat.two_pow_add_eq_or_of_lt (i := 8) (b := q) (by simpa using h) p
  rw [show (2 ^ 8 * p) = p * 256 by rw [Nat.mul_comm]] at this
  exact this.symm
section
variable {P : Program} {N : Fra} {w0 : World} {env : Env} {L : List Ent} {d : Option Tmp} {ty : TypeId} {ps : String} {af : Array Edge} {gd : Option (Nat × Bool)} {x y : Operand} {k : IntKind} {t u : TypeId}
theorem ry_shl8 {b : UInt8} {k' : IntKind} (hx : ev env x = some (.int k b.toNat)) (hy : ev env y = some (.int k' 8)) (hk : k = .u16 ∨ k = .i64 := by decide) :
    Ry P N w0 env L ⟨d, .binOp .shl t x y u, ty, ps, af, gd⟩ (.int k ((b.toNat * 256 : Nat) : Int)) := by
  have h := ry_shl (P := P) (N := N) (w0 := w0) (L := L) (d := d) (ty := ty) (ps := ps) (af := af) (gd := gd) (t := t) (u := u) hx hy (by decide)
  have hb := b.toNat_lt
  have e : k.wrap ((b.toNat : Int) * 2 ^ min (Int.toNat 8) k.bits) = ((b.toNat * 256 : Nat) : Int) := by
    rcases hk with rfl | rfl <;> simp [IntKind.wrap, IntKind.bits, IntKind.signed] <;> omega
  rw [e] at h; exact h
theorem ry_or8 {b c : UInt8} (hx : ev env x = some (.int k ((b.toNat * 256 : Nat) : Int))) (hy : ev env y = some (.int k c.toNat)) (hk : k = .u16 ∨ k = .i64 := by decide) :
    Ry P N w0 env L ⟨d, .binOp .or t x y u, ty, ps, af, gd⟩ (.int k ((hop16 b c).toNat : Nat)) := by
  have hb := b.toNat_lt; have hc := c.toNat_lt
  rw [hop16_toNat, ← or_low _ _ hc]
  rcases hk with rfl | rfl
  · exact ry_bor hx hy rfl rfl (by simp only [nb]; omega) (by simp only [nb]; omega)
  · exact ry_bor hx hy rfl rfl (by simp only [nb]; omega) (by simp only [nb]; omega)
end
end Go.Eng

/- Values that reach memory: what they reach lies there, or is held alone. Contracts of functions, as classes. -/
set_option linter.unusedSimpArgs false
set_option linter.unusedVariables false
namespace Go.Eng
open Go.RowKit

/-! Entries put together. -/
def Ent.emp : Ent := ⟨fun _ => False, fun _ => True, fun _ _ _ s => s⟩
def Ent.two (a b : Ent) : Ent := ⟨fun k => a.fp k ∨ b.fp k, fun h => a.sat h ∧ b.sat h ∧ ∀ k, a.fp k → ¬ b.fp k,
  fun h h' e s => ⟨a.loc h h' (fun k hk => e k (.inl hk)) s.1, b.loc h h' (fun k hk => e k (.inr hk)) s.2.1, s.2.2⟩⟩
def Ent.all : List Ent → Ent
  | [] => .emp
  | e :: r => .two e (.all r)

theorem Mem.emp_iff {w0 w : World} {L : List Ent} : Mem w0 (.emp :: L) w ↔ Mem w0 L w :=
  ⟨fun h => h.sub (List.sublist_cons_self _ _), fun h => ⟨h.below, fun e he => by
    rcases List.mem_cons.1 he with rfl | he
    · exact trivial
    · exact h.sat e he, fun e he k hk => by
    rcases List.mem_cons.1 he with rfl | he
    · exact hk.elim
    · exact h.dom e he k hk, List.pairwise_cons.2 ⟨fun _ _ _ hk => hk.elim, h.dis⟩⟩⟩
theorem Mem.two_iff {w0 w : World} {a b : Ent} {L : List Ent} : Mem w0 (.two a b :: L) w ↔ Mem w0 (a :: b :: L) w := by
  constructor
  · intro h
    have hs : (a.sat fun k => w.heap[k]?) ∧ (b.sat fun k => w.heap[k]?) ∧ ∀ k, a.fp k → ¬ b.fp k := h.sat (.two a b) (by simp)
    have hd := List.pairwise_cons.1 h.dis
    refine ⟨h.below, fun e he => ?_, fun e he k hk => ?_, ?_⟩
    · rcases List.mem_cons.1 he with rfl | he
      · exact hs.1
      · rcases List.mem_cons.1 he with rfl | he
        · exact hs.2.1
        · exact h.sat e (by simp [he])
    · rcases List.mem_cons.1 he with rfl | he
      · exact h.dom (.two e b) (by simp) k (.inl hk)
      · rcases List.mem_cons.1 he with rfl | he
        · exact h.dom (.two a e) (by simp) k (.inr hk)
        · exact h.dom e (by simp [he]) k hk
    · refine List.pairwise_cons.2 ⟨fun x hx k hk => ?_, List.pairwise_cons.2 ⟨fun x hx k hk => hd.1 x hx k (.inr hk), hd.2⟩⟩
      rcases List.mem_cons.1 hx with rfl | hx
      · exact hs.2.2 k hk
      · exact hd.1 x hx k (.inl hk)
  · intro h
    have hd := List.pairwise_cons.1 h.dis
    have hd2 := List.pairwise_cons.1 hd.2
    refine ⟨h.below, fun e he => ?_, fun e he k hk => ?_, List.pairwise_cons.2 ⟨fun x hx k hk => ?_, hd2.2⟩⟩
    · rcases List.mem_cons.1 he with rfl | he
      · exact ⟨h.sat a (by simp), h.sat b (by simp), fun k hk => hd.1 b (by simp) k hk⟩
      · exact h.sat e (by simp [he])
    · rcases List.mem_cons.1 he with rfl | he
      · rcases hk with hk | hk
        · exact h.dom a (by simp) k hk
        · exact h.dom b (by simp) k hk
      · exact h.dom e (by simp [he]) k hk
    · rcases hk with hk | hk
      · exact hd.1 x (by simp [hx]) k hk
      · exact hd2.1 x hx k hk
theorem Mem.head_congr {w0 w : World} {a : Ent} {L L' : List Ent} (h : Mem w0 (a :: L) w) (hl : ∀ w, Mem w0 L w → Mem w0 L' w) (hf : ∀ k, (∃ e ∈ L', e.fp k) → ∃ e ∈ L, e.fp k) : Mem w0 (a :: L') w := by
  have h' := hl w (h.sub (List.sublist_cons_self _ _))
  have hd := List.pairwise_cons.1 h.dis
  refine ⟨h.below, fun e he => ?_, fun e he k hk => ?_, List.pairwise_cons.2 ⟨fun x hx k hk hk' => ?_, h'.dis⟩⟩
  · rcases List.mem_cons.1 he with rfl | he
    · exact h.sat e (by simp)
    · exact h'.sat e he
  · rcases List.mem_cons.1 he with rfl | he
    · exact h.dom e (by simp) k hk
    · exact h'.dom e he k hk
  · obtain ⟨e, he, hk2⟩ := hf k ⟨x, hx, hk'⟩
    exact hd.1 e he k hk hk2
theorem Mem.all_iff {w0 w : World} : ∀ (es : List Ent) {L : List Ent}, Mem w0 (.all es :: L) w ↔ Mem w0 (es ++ L) w
  | [], _ => Mem.emp_iff
  | e :: r, L => by
    show Mem w0 (.two e (.all r) :: L) w ↔ _
    rw [Mem.two_iff]
    have sw : ∀ (a b : Ent) (K : List Ent), Mem w0 (a :: b :: K) w ↔ Mem w0 (b :: a :: K) w := fun a b K => ⟨fun h => h.perm (List.Perm.swap _ _ _), fun h => h.perm (List.Perm.swap _ _ _)⟩
    rw [sw, Mem.all_iff r]
    exact ⟨fun h => h.perm (List.perm_middle), fun h => h.perm (List.perm_middle).symm⟩

/-! Values that reach memory. -/
class Deep (τ : Type) where
  c : Nat
  cells : τ → Array Value
  size : ∀ x, (cells x).size = c
  one : ∀ x, (cells x).all (·.oneCell') = true
  good : (Nat → Option Obj) → τ → Prop
  ent : τ → Ent
  good_of : ∀ h x, (ent x).sat h → good h x
  mono : ∀ (w w' : World) x, good (hp w) x → Below w.heap.size w w' → good (hp w') x
instance Deep.enc {τ : Type} [Deep τ] : Enc (Deep.cells (τ := τ)) (Deep.c τ) := ⟨Deep.size, Deep.one⟩
/-- Values that reach nothing. -/
@[reducible] def Deep.flat {τ : Type} (enc : τ → Array Value) (c : Nat) [he : Enc enc c] : Deep τ := ⟨c, enc, he.size, he.one, fun _ _ => True, fun _ => .emp, fun _ _ _ => trivial, fun _ _ _ _ _ => trivial⟩
/-- A slice and what it holds. -/
structure Sl (τ : Type) where
  sv : Sv
  xs : List τ
theorem Ent.all_sat {h : Nat → Option Obj} : ∀ {es : List Ent}, (Ent.all es).sat h → ∀ e ∈ es, e.sat h
  | [], _, _, he => by cases he
  | _ :: _, hs, e, he => by
    rcases List.mem_cons.1 he with rfl | he
    · exact hs.1
    · exact Ent.all_sat hs.2.1 e he
instance Deep.slice {τ : Type} [d : Deep τ] : Deep (Sl τ) where
  c := 1
  cells a := senc a.sv
  size _ := rfl
  one a := Enc.one (enc := senc) (c := 1) a.sv
  good h a := Lies (Deep.cells (τ := τ)) (Deep.c τ) h a.sv a.xs ∧ ∀ x ∈ a.xs, d.good h x
  ent a := .two (own (Deep.cells (τ := τ)) (Deep.c τ) a.sv a.xs) (.all (a.xs.map d.ent))
  good_of h _ hs := ⟨hs.1.1, fun x hx => d.good_of h x (Ent.all_sat hs.2.1 _ (List.mem_map_of_mem hx))⟩
  mono w w' _ hg hb := ⟨hg.1.mono hb, fun x hx => d.mono w w' x (hg.2 x hx) hb⟩
theorem Mem.open_sl {τ : Type} [d : Deep τ] {w0 w : World} {L : List Ent} {a : Sl τ} : Mem w0 (Deep.ent a :: L) w ↔ Mem w0 (own (Deep.cells (τ := τ)) (Deep.c τ) a.sv a.xs :: a.xs.map d.ent ++ L) w := by
  show Mem w0 (.two _ (.all _) :: L) w ↔ _
  rw [Mem.two_iff]
  have sw : ∀ (a b : Ent) (K : List Ent), Mem w0 (a :: b :: K) w ↔ Mem w0 (b :: a :: K) w := fun a b K => ⟨fun h => h.perm (List.Perm.swap _ _ _), fun h => h.perm (List.Perm.swap _ _ _)⟩
  rw [sw, Mem.all_iff]
  exact ⟨fun h => h.perm (List.perm_middle), fun h => h.perm (List.perm_middle).symm⟩

/-! What is known of a slice or a value in all worlds that the frame's facts tell of. -/
section
variable {w0 : World} {L : List Ent} {τ : Type}
class Hd (w0 : World) (L : List Ent) (s : Sv) {α : outParam Type} (enc : outParam (α → Array Value)) (c : outParam Nat) (xs : outParam (List α)) : Prop where
  h : Holds w0 L enc c s xs
class Gv (w0 : World) (s : Sv) {α : outParam Type} (enc : outParam (α → Array Value)) (c : outParam Nat) (xs : outParam (List α)) : Prop where
  h : Lies enc c (hp w0) s xs
instance (priority := high) Hd.owned {s : Sv} {α : Type} {enc : α → Array Value} {c : Nat} {xs : List α} {i : Nat} [q : Owns L s enc c xs i] : Hd w0 L s enc c xs := ⟨q.holds⟩
instance Hd.given {s : Sv} {α : Type} {enc : α → Array Value} {c : Nat} {xs : List α} [q : Gv w0 s enc c xs] [Enc enc c] : Hd w0 L s enc c xs := ⟨holds_given q.h⟩
/-- .. a part of a slice. -/
class Rg (lo hi n : Nat) : Prop where
  h : lo ≤ hi ∧ hi ≤ n
instance Hd.sub {s : Sv} {α : Type} {enc : α → Array Value} {c : Nat} {xs : List α} {lo hi : Nat} [q : Hd w0 L s enc c xs] [r : Rg lo hi xs.length] : Hd w0 L (s.sub c lo hi) enc c ((xs.drop lo).take (hi - lo)) := ⟨q.h.sub r.h.1 r.h.2⟩
class HdE (w0 : World) (L : List Ent) {α : Type} (enc : α → Array Value) (c : Nat) (s : Sv) (xs : outParam (List α)) : Prop where
  h : Holds w0 L enc c s xs
instance (priority := high) HdE.of {s : Sv} {α : Type} {enc : α → Array Value} {c : Nat} {xs : List α} [q : Hd w0 L s enc c xs] : HdE w0 L enc c s xs := ⟨q.h⟩
instance HdE.none {α : Type} {enc : α → Array Value} {c : Nat} : HdE w0 L enc c Sv.none [] := ⟨fun _ _ => Lies.nil enc c _⟩

/-- A value that reaches memory. -/
class HdD (w0 : World) (L : List Ent) {τ : Type} [Deep τ] (a : τ) : Prop where
  h : ∀ w, Mem w0 L w → Deep.good (hp w) a
class GvD (w0 : World) {τ : Type} [Deep τ] (a : τ) : Prop where
  h : Deep.good (hp w0) a
class Mb {τ : Type} (x : τ) (a : outParam (Sl τ)) : Prop where
  h : x ∈ a.xs
instance HdD.given [Deep τ] {a : τ} [q : GvD w0 a] : HdD w0 L a := ⟨fun _ hw => Deep.mono w0 _ a q.h hw.below⟩
instance (priority := high) HdD.owned [Deep τ] {a : τ} {i : Nat} [q : At L (Deep.ent a) i] : HdD w0 L a := ⟨fun _ hw => Deep.good_of _ a (hw.get q.h)⟩
instance (priority := low) HdD.elem [Deep τ] {a : Sl τ} {x : τ} [q : HdD w0 L a] [m : Mb x a] : HdD w0 L x := ⟨fun w hw => (q.h w hw).2 x m.h⟩
/-- The cells of a type of plain values. -/
class FlatT (τ : Type) [Deep τ] (enc : outParam (τ → Array Value)) (c : outParam Nat) : Prop where
  hc : Deep.c τ = c
  h : ∀ x : τ, Deep.cells x = enc x
instance (priority := low) Hd.deep [d : Deep τ] {enc : τ → Array Value} {c : Nat} [f : FlatT τ enc c] {a : Sl τ} [q : HdD w0 L a] : Hd w0 L a.sv enc c a.xs := ⟨fun w hw => by
  have h := (q.h w hw).1
  have e : Deep.cells (τ := τ) = enc := funext f.h
  rw [← e, ← f.hc]; exact h⟩
end

/-! Rules over what is known. -/
section
variable {P : Program} {N : Fra} {w0 : World} {env : Env} {L : List Ent} {d : Option Tmp} {ty : TypeId} {ps : String} {af : Array Edge} {gd : Option (Nat × Bool)}
variable {α : Type} {enc : α → Array Value} {c : Nat} {s : Sv} {xs : List α}
theorem ry_lenH {t e : TypeId} {x : Operand} {m : Nat} [ht : SliceT P t e m] (hx : ev env x = some s.val) [q : Hd w0 L s enc c xs] :
    Ry P N w0 env L ⟨d, .call { callee := .builtin .len, args := #[x], argTypes := #[t] }, ty, ps, af, gd⟩ (.int .i64 (xs.length : Nat)) := fun a w ha hw =>
  ry_lenS (P := P) (N := N) (w0 := w0) (L := L) (d := d) (ty := ty) (ps := ps) (af := af) (gd := gd) hx (q.h w hw).ok (q.h w hw).len a w ha hw
theorem ry_idxH {t e : TypeId} {x ix : Operand} {m : Nat} {k : IntKind} {j : Int} [ht : SliceT P t e m] (hx : ev env x = some s.val) (hj : ev env ix = some (.int k j)) [q : Hd w0 L s enc c xs] (i : Nat) (ej : j = (i : Int)) (h1 : i < xs.length) :
    Ry P N w0 env L ⟨d, .indexAddr t x ix, ty, ps, af, gd⟩ (.pointer (some ⟨s.b, s.o + i * m, none⟩)) := fun a w ha hw =>
  ry_idxSv (P := P) (N := N) (w0 := w0) (L := L) (d := d) (ty := ty) (ps := ps) (af := af) (gd := gd) hx hj ej (q.h w hw).ok (by rw [(q.h w hw).len]; exact h1) a w ha hw
theorem ry_elemH {t : TypeId} {x : Operand} {p : Nat} {a : α} [ht : RowT P t c] [he : Enc enc c] [q : Hd w0 L s enc c xs] (hx : ev env x = some (.pointer (some ⟨s.b, p, none⟩))) (i : Nat) (hi : xs[i]? = some a) (hp' : p = s.o + i * c) :
    Ry P N w0 env L ⟨d, .load t x, ty, ps, af, gd⟩ (.agg (enc a)) := ry_elem hx q.h hi hp'
theorem ry_elemcH {t : TypeId} {x : Operand} {p j : Nat} {a : α} {v : Value} [ht : OneT P t] [q : Hd w0 L s enc c xs] (hx : ev env x = some (.pointer (some ⟨s.b, p, none⟩))) (i : Nat) (hi : xs[i]? = some a) (hp' : p = s.o + i * c + j) (hj : j < c) [hv : CellAt (enc a) j v] :
    Ry P N w0 env L ⟨d, .load t x, ty, ps, af, gd⟩ v := ry_elemc hx q.h hi hp' hj hv.h
theorem ry_elempH {t : TypeId} {x : Operand} {p j n : Nat} {a : α} {sub : Array Value} [ht : RowT P t n] [q : Hd w0 L s enc c xs] (hx : ev env x = some (.pointer (some ⟨s.b, p, none⟩))) (i : Nat) (hi : xs[i]? = some a) (hp' : p = s.o + i * c + j) (hj : j + n ≤ c) [hs : PartAt (enc a) j n sub] :
    Ry P N w0 env L ⟨d, .load t x, ty, ps, af, gd⟩ (.agg sub) := ry_elemp hx q.h hi hp' hj
theorem ry_subH {t e : TypeId} {x lo hi : Operand} {k k' : IntKind} {il ih : Int} [ht : SliceT P t e c] (hx : ev env x = some s.val) (hl : ev env lo = some (.int k il)) (hh : ev env hi = some (.int k' ih)) [q : Hd w0 L s enc c xs] (l h : Nat) (el : il = (l : Int)) (eh : ih = (h : Int)) (h1 : l ≤ h) (h2 : h ≤ xs.length) :
    Ry P N w0 env L ⟨d, .slice t x (some lo) (some hi) none, ty, ps, af, gd⟩ (s.sub c l h).val := fun a w ha hw =>
  ry_subS (P := P) (N := N) (w0 := w0) (L := L) (d := d) (ty := ty) (ps := ps) (af := af) (gd := gd) hx hl hh el eh (q.h w hw).ok h1 (by have := (q.h w hw).len; have := (q.h w hw).ok.le; omega) a w ha hw
theorem ry_subH_hi {t e : TypeId} {x hi : Operand} {k' : IntKind} {ih : Int} [ht : SliceT P t e c] (hx : ev env x = some s.val) (hh : ev env hi = some (.int k' ih)) [q : Hd w0 L s enc c xs] (h : Nat) (eh : ih = (h : Int)) (h2 : h ≤ xs.length) :
    Ry P N w0 env L ⟨d, .slice t x none (some hi) none, ty, ps, af, gd⟩ (s.sub c 0 h).val := fun a w ha hw =>
  ry_subS_hi (P := P) (N := N) (w0 := w0) (L := L) (d := d) (ty := ty) (ps := ps) (af := af) (gd := gd) hx hh eh (q.h w hw).ok (by have := (q.h w hw).len; have := (q.h w hw).ok.le; omega) a w ha hw
theorem ry_subH_lo {t e : TypeId} {x lo : Operand} {k : IntKind} {il : Int} [ht : SliceT P t e c] (hx : ev env x = some s.val) (hl : ev env lo = some (.int k il)) [q : Hd w0 L s enc c xs] (l : Nat) (el : il = (l : Int)) (h1 : l ≤ xs.length) :
    Ry P N w0 env L ⟨d, .slice t x (some lo) none none, ty, ps, af, gd⟩ (s.sub c l xs.length).val := fun a w ha hw =>
  ry_subS_lo (P := P) (N := N) (w0 := w0) (L := L) (d := d) (ty := ty) (ps := ps) (af := af) (gd := gd) hx hl el (q.h w hw).ok (q.h w hw).len h1 a w ha hw
theorem ry_bstrH {t e tb : TypeId} {x : Operand} {xs : List UInt8} (hs : P.underlying tb = some (.slice e)) (he : P.underlying e = some (.int .u8)) (hd : P.underlying t = some .string) (hx : ev env x = some s.val) [q : Hd w0 L s benc 1 xs] :
    Ry P N w0 env L ⟨d, .convert tb t x, ty, ps, af, gd⟩ (.string ⟨xs.toArray⟩) := ry_bstr hs he hd hx q.h
/-- A small number as another kind. -/
theorem ry_conv_u8 {s t : TypeId} {x : Operand} {k : IntKind} {b : UInt8} [hs : IntT P s .u8] [ht : IntT P t k] (hx : ev env x = some (.int .u8 b.toNat)) (hk : 8 ≤ nb k := by decide) :
    Ry P N w0 env L ⟨d, .convert s t x, ty, ps, af, gd⟩ (.int k b.toNat) := ry_convn hx (Nat.lt_of_lt_of_le b.toNat_lt (Nat.pow_le_pow_right (by decide) hk))
theorem ry_conv_u16 {s t : TypeId} {x : Operand} {k : IntKind} {b : UInt16} [hs : IntT P s .u16] [ht : IntT P t k] (hx : ev env x = some (.int .u16 b.toNat)) (hk : 16 ≤ nb k := by decide) :
    Ry P N w0 env L ⟨d, .convert s t x, ty, ps, af, gd⟩ (.int k b.toNat) := ry_convn hx (Nat.lt_of_lt_of_le b.toNat_lt (Nat.pow_le_pow_right (by decide) hk))
end

/-! Contracts as classes. -/
section
variable {P : Program} {N : Fra} {w0 : World} {env : Env} {L : List Ent} {l : List Oper} {Q : Exit → Act → World → Prop} {rest : List Oper} {d : Option Tmp} {ty : TypeId} {ps : String} {af : Array Edge} {gd : Option (Nat × Bool)}
/-- A call that hands back v and leaves what was there. -/
class FnQ (P : Program) (f : FuncId) (w0 : World) (L : List Ent) (vs : List Value) (v : outParam Value) (pre : outParam Prop) : Prop where
  h : pre → ∀ w, Mem w0 L w → Calls P f vs.toArray w fun e w' => e = .returned v ∧ Mem w [] w'
/-- A call that hands back val x for some x, and leaves L' x. -/
class FnC (P : Program) (f : FuncId) (w0 : World) (L : List Ent) (vs : List Value) (X : outParam Type) (val : outParam (X → Value)) (L' : outParam (X → List Ent)) (pr : outParam (X → Prop)) (pre : outParam Prop) : Prop where
  h : pre → ∀ w, Mem w0 L w → Calls P f vs.toArray w fun e w' => ∃ x, e = .returned (val x) ∧ pr x ∧ Mem w0 (L' x) w'
instance (priority := high) FnQ.pure {f : FuncId} {vs : List Value} {v : Value} [h : PureFn P f vs v] : FnQ P f w0 L vs v True := ⟨fun _ w _ => h.h w⟩
theorem yl_callC {f : FuncId} {xs : List Operand} {ts : Array TypeId} {vs : List Value} {v : Value} {pre : Prop} [hf : IsFn P f] (hx : evl env xs = some vs) [hc : FnQ P f w0 L vs v pre] (hp : pre) :
    Yl P N w0 env L ⟨d, .call { callee := .value (.func f), args := xs.toArray, argTypes := ts }, ty, ps, af, gd⟩ v := yl_call hx fun w hw => hc.h hp w hw
theorem sq_callC {X : Type} {val : X → Value} {L' : X → List Ent} {pr : X → Prop} {pre : Prop} {f : FuncId} {xs : List Operand} {ts : Array TypeId} {vs : List Value} [hf : IsFn P f] (hx : evl env xs = some vs)
    [hc : FnC P f w0 L vs X val L' pr pre] (hp : pre) (hk : ∀ x, pr x → Sq P N w0 l Q rest (putE env d (val x)) (L' x)) (hd : dstOk N d = true := by rfl) :
    Sq P N w0 l Q (⟨d, .call { callee := .value (.func f), args := xs.toArray, argTypes := ts }, ty, ps, af, none⟩ :: rest) env L := sq_callG hx (fun w hw => hc.h hp w hw) hk hd
theorem fr_callC {Lq : List Ent} {n j : Nat} {js : List Nat} {X : Type} {val : X → Value} {L' : X → List Ent} {pr : X → Prop} {pre : Prop} {f : FuncId} {xs : List Operand} {ts : Array TypeId} {vs : List Value} (hj : l[j]? = some ⟨d, .call { callee := .value (.func f), args := xs.toArray, argTypes := ts }, ty, ps, af, none⟩) [hf : IsFn P f] (hx : evl env xs = some vs)
    [hc : FnC P f w0 L vs X val L' pr pre] (hp : pre) (hL : ∀ x w, Mem w0 (L' x) w → Mem w0 Lq w) (hk : ∀ x, pr x → Fr P N w0 Lq l n Q js (putE env d (val x)) (L' x)) (hd : dstOk N d = true := by rfl) :
    Fr P N w0 Lq l n Q (j :: js) env L := fr_callG hj hx (fun w hw => hc.h hp w hw) hL hk hd
/-- Under a guard, a call that makes memory: where the guard is false nothing is there. -/
theorem sq_gcallC {X : Type} {val : X → Value} {L' : X → List Ent} {pr : X → Prop} {pre : Prop} {f : FuncId} {xs : List Operand} {ts : Array TypeId} {vs : List Value} {j t : Nat} {g : Bool} [hf : IsFn P f] (hj : (l[j]?).bind (·.dst) = some t) (hv : look env t = some (.bool g)) (hx : g = true → evl env xs = some vs)
    [hc : FnC P f w0 L vs X val L' pr pre] (hp : g = true → pre) (hk : ∀ x, (g = true → pr x) → Sq P N w0 l Q rest (putE env d (if g = true then val x else undef)) (if g = true then L' x else L)) (x0 : X) (hd : dstOk N d = true := by rfl) :
    Sq P N w0 l Q (⟨d, .call { callee := .value (.func f), args := xs.toArray, argTypes := ts }, ty, ps, af, some (j, true)⟩ :: rest) env L := by
  cases g
  · intro a w ha hw
    unfold wpList
    rw [wanted_some ha rfl hj hv]
    have := hk x0 (fun h => by cases h) (a.put d undef) w (by simpa using ha.put hd undef) (by simpa using hw)
    simpa using this
  · intro a w ha hw
    unfold wpList
    rw [wanted_some ha rfl hj hv]
    refine .inl ?_
    unfold Oper.wp
    rw [run_call hf w rfl, ha.evl (hx rfl)]
    exact (hc.h (hp rfl) w hw).mono fun e w' ⟨x, he, hpx, hm⟩ => by subst he; exact hk x (fun _ => hpx) _ _ (by simpa using ha.put hd _) (by simpa using hm)
end

/-! What is left of the memory told. -/
class DelI (L : List Ent) (i : Nat) (R : outParam (List Ent)) : Prop where
  h : L.eraseIdx i = R
instance DelI.here {e : Ent} {L : List Ent} : DelI (e :: L) 0 L := ⟨rfl⟩
instance DelI.there {e : Ent} {L R : List Ent} {i : Nat} [q : DelI L i R] : DelI (e :: L) (i + 1) (e :: R) := ⟨by simp [q.h]⟩
class Keep (L L' : List Ent) : Prop where
  h : ∃ R, L.Perm (L' ++ R)
instance (priority := high) Keep.nil {L : List Ent} : Keep L [] := ⟨⟨L, .refl _⟩⟩
instance (priority := high) Keep.same {L : List Ent} : Keep L L := ⟨⟨[], by simp⟩⟩
theorem perm_erase {e : Ent} : ∀ {L : List Ent} {i : Nat}, L[i]? = some e → L.Perm (e :: L.eraseIdx i)
  | [], i, h => by simp at h
  | x :: L, 0, h => by obtain rfl : x = e := by simpa using h
                       simp
  | x :: L, i + 1, h => by
    have := perm_erase (L := L) (i := i) (by simpa using h)
    rw [List.eraseIdx_cons_succ]
    exact (this.cons x).trans (.swap _ _ _)
instance Keep.cons {L L' R : List Ent} {e : Ent} {i : Nat} [a : At L e i] [b : DelI L i R] [k : Keep R L'] : Keep L (e :: L') := ⟨by
  obtain ⟨S, hS⟩ := k.h
  exact ⟨S, (perm_erase a.h).trans (by rw [b.h]; exact hS.cons e)⟩⟩
theorem Keep.mem {L L' : List Ent} [k : Keep L L'] {w0 w : World} (h : Mem w0 L w) : Mem w0 L' w := by
  obtain ⟨R, hR⟩ := k.h
  exact (h.perm hR).sub (List.sublist_append_left _ _)
theorem sq_mem {P : Program} {N : Fra} {w0 : World} {env : Env} {L : List Ent} {l : List Oper} {Q : Exit → Act → World → Prop} {rest : List Oper} (L' : List Ent) (h : ∀ w, Mem w0 L w → Mem w0 L' w) (hk : Sq P N w0 l Q rest env L') : Sq P N w0 l Q rest env L := fun a w ha hw => hk a w ha (h w hw)
theorem cw_mem {P : Program} {N : Fra} {w0 : World} {env : Env} {L : List Ent} {Q : Exit → Act → World → Prop} {c : Code} (L' : List Ent) (h : ∀ w, Mem w0 L w → Mem w0 L' w) (hk : Cw P N w0 Q c env L') : Cw P N w0 Q c env L := fun a w ha hw => hk a w ha (h w hw)

/-- What is known of a slice, told. -/
theorem cw_bd {P : Program} {N : Fra} {w0 : World} {env : Env} {L : List Ent} {Q : Exit → Act → World → Prop} {c : Code} (s : Sv) {α : Type} {enc : α → Array Value} {n : Nat} {xs : List α} [q : Hd w0 L s enc n xs] (hk : xs.length ≤ 140737488355328 → Cw P N w0 Q c env L) : Cw P N w0 Q c env L :=
  fun a w ha hw => hk (q.h w hw).bd a w ha hw
theorem sq_bd {P : Program} {N : Fra} {w0 : World} {env : Env} {L : List Ent} {l : List Oper} {Q : Exit → Act → World → Prop} {rest : List Oper} (s : Sv) {α : Type} {enc : α → Array Value} {n : Nat} {xs : List α} [q : Hd w0 L s enc n xs] (hk : xs.length ≤ 140737488355328 → Sq P N w0 l Q rest env L) : Sq P N w0 l Q rest env L :=
  fun a w ha hw => hk (q.h w hw).bd a w ha hw
theorem get_getD {α : Type} {xs : List α} {i : Nat} {d : α} (h : i < xs.length) : xs[i]? = some (xs.getD i d) := by
  simp [List.getD, h]
section
variable {P : Program} {N : Fra} {w0 : World} {env : Env} {L : List Ent} {l : List Oper} {Q : Exit → Act → World → Prop} {rest : List Oper} {d : Option Tmp} {ty : TypeId} {ps : String} {af : Array Edge} {gd : Option (Nat × Bool)}
variable {α : Type} {enc : α → Array Value} {c : Nat} {s : Sv} {xs : List α}
/-- Texts, as lists. -/
theorem ry_streqL {x y : Operand} {t u : TypeId} {a b : List UInt8} (hx : ev env x = some (.string ⟨a.toArray⟩)) (hy : ev env y = some (.string ⟨b.toArray⟩)) :
    Ry P N w0 env L ⟨d, .binOp .eql t x y u, ty, ps, af, gd⟩ (.bool (decide (a = b))) := by
  have e : ((⟨a.toArray⟩ : ByteArray).toList == (⟨b.toArray⟩ : ByteArray).toList) = decide (a = b) := by
    rw [ByteArray.toList_mk, ByteArray.toList_mk, Bool.eq_iff_iff]; simp
  rw [← e]; exact ry_streql hx hy
theorem ry_strneL {x y : Operand} {t u : TypeId} {a b : List UInt8} (hx : ev env x = some (.string ⟨a.toArray⟩)) (hy : ev env y = some (.string ⟨b.toArray⟩)) :
    Ry P N w0 env L ⟨d, .binOp .neq t x y u, ty, ps, af, gd⟩ (.bool (!decide (a = b))) := by
  have e : ((⟨a.toArray⟩ : ByteArray).toList == (⟨b.toArray⟩ : ByteArray).toList) = decide (a = b) := by
    rw [ByteArray.toList_mk, ByteArray.toList_mk, Bool.eq_iff_iff]; simp
  rw [← e]; exact ry_strneq hx hy
/-- Is a slice nil? -/
theorem ry_nilS {t e : TypeId} {x : Operand} {u : TypeId} (ht : P.underlying t = some (.slice e)) (hx : ev env x = some s.val) :
    Ry P N w0 env L ⟨d, .binOp .eql t x (.const (.slice none 0 0)) u, ty, ps, af, gd⟩ (.bool s.nil) := fun a w ha _ => by
  have h1 : (eqGuard BinOp.eql t x (.const (.slice none 0 0)) s.val (.slice none 0 0)).run P w = .ok () w := by
    unfold Sv.val; split <;> rfl
  have h3 : (Op.equal t s.val (.slice none 0 0)).run P w = .ok s.nil w := by
    unfold Sv.val
    split <;> rename_i hn <;> rw [run_equal_slice_nil w t e _ _ _ ht, hn] <;> rfl
  have h2 : (binOp .eql t s.val (.slice none 0 0)).run P w = .ok (.bool s.nil) w := by
    have : binOp .eql t s.val (.slice none 0 0) = (do pure (.bool (← Op.equal t s.val (.slice none 0 0)))) := by unfold Sv.val; split <;> rfl
    rw [this, Sem.run_bind, h3]; rfl
  simp only [execOp, ha.ev hx, show a.eval (.const (.slice none 0 0)) = .slice none 0 0 from rfl, Sem.run_bind, h1, Result.andThen_ok, h2, Sem.run_pure]
theorem ry_someS {t e : TypeId} {x : Operand} {u : TypeId} (ht : P.underlying t = some (.slice e)) (hx : ev env x = some s.val) :
    Ry P N w0 env L ⟨d, .binOp .neq t x (.const (.slice none 0 0)) u, ty, ps, af, gd⟩ (.bool (!s.nil)) := fun a w ha _ => by
  have h1 : (eqGuard BinOp.neq t x (.const (.slice none 0 0)) s.val (.slice none 0 0)).run P w = .ok () w := by
    unfold Sv.val; split <;> rfl
  have h3 : (Op.equal t s.val (.slice none 0 0)).run P w = .ok s.nil w := by
    unfold Sv.val
    split <;> rename_i hn <;> rw [run_equal_slice_nil w t e _ _ _ ht, hn] <;> rfl
  have h2 : (binOp .neq t s.val (.slice none 0 0)).run P w = .ok (.bool (!s.nil)) w := by
    have : binOp .neq t s.val (.slice none 0 0) = (do pure (.bool (!(← Op.equal t s.val (.slice none 0 0))))) := by unfold Sv.val; split <;> rfl
    rw [this, Sem.run_bind, h3]; rfl
  simp only [execOp, ha.ev hx, show a.eval (.const (.slice none 0 0)) = .slice none 0 0 from rfl, Sem.run_bind, h1, Result.andThen_ok, h2, Sem.run_pure]
/-- T{}: an empty slice that isn't nil. -/
theorem run_build0 {t e : TypeId} {by' : Nat} (ht : SlT P t e c by') (w : World) : (Instr.buildSlice t 0 #[]).run P w = .ok (.slice (some ⟨w.heap.size, 0, none⟩) 0 0) (w.alloc (.cells #[] e)) := by
  obtain ⟨i', z, hi1, hi2, hi3, hi4, hzc⟩ := ht.info
  have : (Array.range 0 : Array Nat) = #[] := by simp
  simp [Instr.buildSlice, run_underlying ht.und, sizeOf, typeInfo, hi1, Instr.fill, newRow, newObj, Sem.run, Result.andThen, this]
theorem sq_build0 {t e : TypeId} {by' : Nat} (enc : α → Array Value) [ht : SlT P t e c by'] [he : Enc enc c] (hk : ∀ b, Sq P N w0 l Q rest (putE env d (Sv.val ⟨false, b, 0, 0, 0, none⟩)) (own enc c ⟨false, b, 0, 0, 0, none⟩ [] :: L)) (hd : dstOk N d = true := by rfl) :
    Sq P N w0 l Q (⟨d, .buildSlice t 0 #[], ty, ps, af, none⟩ :: rest) env L :=
  sq_run rfl hd fun a w _ hw => by
    refine ⟨_, _, _, ?_, hw.call (mem_new (enc := enc) (c := c) (xs := []) (cs := #[]) (e := e) rfl 0 0 rfl (Nat.le_refl _) (Nat.zero_le _) (by simp) (by simp)), hk _⟩
    simp only [execOp, Sem.run_bind, List.map_toArray, List.map_nil, run_build0 ht w, Result.andThen, Sem.run_pure]; rfl
end
instance : Deep UInt8 := Deep.flat benc 1
instance : FlatT UInt8 benc 1 := ⟨rfl, fun _ => rfl⟩
def scells {τ : Type} (a : Sl τ) : Array Value := #[a.sv.val]
instance {τ : Type} : Enc (scells (τ := τ)) 1 := ⟨fun _ => rfl, fun a => Enc.one (enc := senc) (c := 1) a.sv⟩
instance {τ : Type} [Deep τ] : FlatT (Sl τ) scells 1 := ⟨rfl, fun _ => rfl⟩
instance {τ : Type} (a : Sl τ) : CellAt (scells a) 0 a.sv.val := ⟨rfl⟩
/-- The lists in a list of slices. -/
def lx {τ : Type} (a : Sl (Sl τ)) : List (List τ) := a.xs.map (·.xs)
theorem lx_length {τ : Type} (a : Sl (Sl τ)) : (lx a).length = a.xs.length := by simp [lx]

/-! Memory told in another way. -/
section
variable {L L' L1 L2 R R1 R2 : List Ent} {τ : Type}
def Tr (L L' : List Ent) : Prop := ∀ (K : List Ent) (w0 w : World), Mem w0 (L ++ K) w → Mem w0 (L' ++ K) w
theorem Tr.mem (h : Tr L L') {w0 w : World} (hw : Mem w0 L w) : Mem w0 L' w := by
  have := h [] w0 w (by simpa using hw); simpa using this
theorem Tr.refl : Tr L L := fun _ _ _ h => h
theorem Tr.trans (h : Tr L L1) (h' : Tr L1 L2) : Tr L L2 := fun K w0 w hw => h' K w0 w (h K w0 w hw)
theorem Tr.perm (h : L.Perm L') : Tr L L' := fun K _ _ hw => Mem.perm hw (h.append_right K)
theorem Tr.left (h : Tr L L') (X : List Ent) : Tr (X ++ L) (X ++ L') := fun K w0 w hw => by
  have p : ∀ Y : List Ent, (X ++ Y ++ K).Perm (Y ++ (X ++ K)) := fun Y => by
    rw [List.append_assoc, ← List.append_assoc Y]
    refine (List.perm_append_comm_assoc X Y K).trans ?_
    rw [List.append_assoc]
  exact (h (X ++ K) w0 w (hw.perm (p L))).perm (p L').symm
theorem Tr.right (h : Tr L L') (X : List Ent) : Tr (L ++ X) (L' ++ X) := fun K w0 w hw => by
  rw [List.append_assoc] at hw ⊢; exact h (X ++ K) w0 w hw
theorem Tr.cons (h : Tr L L') (x : Ent) : Tr (x :: L) (x :: L') := h.left [x]
theorem Tr.sub (h : L'.Sublist L) : Tr L L' := fun K _ _ hw => Mem.sub hw (h.append (.refl K))
theorem Tr.front {e : Ent} {i : Nat} (hi : L[i]? = some e) : Tr L (e :: L.eraseIdx i) := .perm (perm_erase hi)
theorem Tr.back {e : Ent} {i : Nat} (hi : L[i]? = some e) : Tr (e :: L.eraseIdx i) L := .perm (perm_erase hi).symm
theorem Tr.emp : Tr (.emp :: L) L := fun _ _ _ hw => Mem.emp_iff.1 hw
theorem Tr.emp' : Tr L (.emp :: L) := fun _ _ _ hw => Mem.emp_iff.2 hw
theorem Tr.two {a b : Ent} : Tr (.two a b :: L) (a :: b :: L) := fun _ _ _ hw => Mem.two_iff.1 hw
theorem Tr.two' {a b : Ent} : Tr (a :: b :: L) (.two a b :: L) := fun _ _ _ hw => Mem.two_iff.2 hw
theorem Tr.open_sl [d : Deep τ] {a : Sl τ} : Tr (Deep.ent a :: L) (own (Deep.cells (τ := τ)) (Deep.c τ) a.sv a.xs :: a.xs.map d.ent ++ L) := fun K w0 w hw => by
  have := Mem.open_sl.1 hw
  simpa using this
theorem Tr.shut_sl [d : Deep τ] {a : Sl τ} : Tr (own (Deep.cells (τ := τ)) (Deep.c τ) a.sv a.xs :: a.xs.map d.ent ++ L) (Deep.ent a :: L) := fun K w0 w hw => by
  refine Mem.open_sl.2 ?_
  simpa using hw
/-- Types of values that reach nothing. -/
class Plain (τ : Type) [Deep τ] : Prop where
  h : ∀ x : τ, Deep.ent x = .emp
theorem Tr.plain [Deep τ] [p : Plain τ] : ∀ {xs : List τ}, Tr (xs.map Deep.ent ++ L) L
  | [] => .refl
  | x :: xs => by
    rw [List.map_cons, p.h]
    exact Tr.emp.trans Tr.plain
theorem Tr.plain' [Deep τ] [p : Plain τ] : ∀ {xs : List τ}, Tr L (xs.map Deep.ent ++ L)
  | [] => .refl
  | x :: xs => by
    rw [List.map_cons, p.h]
    exact (Tr.plain' (xs := xs)).trans Tr.emp'
theorem own_flat [Deep τ] {enc : τ → Array Value} {c : Nat} [f : FlatT τ enc c] (s : Sv) (xs : List τ) : own (Deep.cells (τ := τ)) (Deep.c τ) s xs = own enc c s xs := by
  have e : Deep.cells (τ := τ) = enc := funext f.h
  rw [e, f.hc]
theorem Tr.open_d [d : Deep τ] {enc : τ → Array Value} {c : Nat} [f : FlatT τ enc c] {a : Sl τ} : Tr (Deep.ent a :: L) (own enc c a.sv a.xs :: (a.xs.map d.ent ++ L)) := by
  rw [← own_flat]; exact Tr.open_sl
theorem Tr.shut_d [d : Deep τ] {enc : τ → Array Value} {c : Nat} [f : FlatT τ enc c] {a : Sl τ} : Tr (own enc c a.sv a.xs :: (a.xs.map d.ent ++ L)) (Deep.ent a :: L) := by
  rw [← own_flat]; exact Tr.shut_sl
theorem Tr.open_p [d : Deep τ] {enc : τ → Array Value} {c : Nat} [f : FlatT τ enc c] [Plain τ] {a : Sl τ} : Tr (Deep.ent a :: L) (own enc c a.sv a.xs :: L) := Tr.open_d.trans (Tr.plain.cons _)
theorem Tr.shut_p [d : Deep τ] {enc : τ → Array Value} {c : Nat} [f : FlatT τ enc c] [Plain τ] {a : Sl τ} : Tr (own enc c a.sv a.xs :: L) (Deep.ent a :: L) := (Tr.plain'.cons _).trans Tr.shut_d
/-- Element i of a slice of values that reach memory, taken out. -/
theorem map_erase {α β : Type} (f : α → β) {xs : List α} {i : Nat} {x : α} (hx : xs[i]? = some x) : (xs.map f).Perm (f x :: (xs.eraseIdx i).map f) := by
  have h1 := (perm_erase' hx).map f
  exact h1
where perm_erase' {α : Type} : ∀ {L : List α} {i : Nat} {e : α}, L[i]? = some e → L.Perm (e :: L.eraseIdx i)
  | [], i, e, h => by simp at h
  | x :: L, 0, e, h => by obtain rfl : x = e := by simpa using h
                          simp
  | x :: L, i + 1, e, h => by
    have := perm_erase' (L := L) (i := i) (e := e) (by simpa using h)
    rw [List.eraseIdx_cons_succ]
    exact (this.cons x).trans (.swap _ _ _)
theorem Tr.pick [d : Deep τ] {enc : τ → Array Value} {c : Nat} [f : FlatT τ enc c] {a : Sl τ} {i : Nat} {x : τ} (hx : a.xs[i]? = some x) :
    Tr (Deep.ent a :: L) (own enc c a.sv a.xs :: Deep.ent x :: ((a.xs.eraseIdx i).map d.ent ++ L)) :=
  Tr.open_d.trans (Tr.cons (Tr.right (Tr.perm (map_erase d.ent hx)) L) _)
theorem erase_set {α : Type} : ∀ (xs : List α) (i : Nat) (y : α), (xs.set i y).eraseIdx i = xs.eraseIdx i
  | [], _, _ => by simp
  | _ :: _, 0, _ => by simp
  | _ :: xs, i + 1, y => by simp [erase_set xs i y]
theorem Tr.lay [d : Deep τ] {enc : τ → Array Value} {c : Nat} [f : FlatT τ enc c] {s : Sv} {xs : List τ} {i : Nat} {y : τ} (hi : i < xs.length) :
    Tr (own enc c s (xs.set i y) :: Deep.ent y :: ((xs.eraseIdx i).map d.ent ++ L)) (Deep.ent (⟨s, xs.set i y⟩ : Sl τ) :: L) := by
  have hy : (xs.set i y)[i]? = some y := by simp [hi]
  have := (map_erase d.ent hy).symm
  rw [erase_set] at this
  exact (Tr.cons (Tr.right (Tr.perm this) L) _).trans (Tr.shut_d (a := ⟨s, xs.set i y⟩))

/-- x's own memory is in L; R is the rest. -/
class Take (L : List Ent) {τ : Type} [Deep τ] (x : τ) (R : outParam (List Ent)) : Prop where
  h : Tr L (Deep.ent x :: R)
class TakeL (L : List Ent) {τ : Type} [Deep τ] (xs : List τ) (R : outParam (List Ent)) : Prop where
  h : Tr L (xs.map Deep.ent ++ R)
instance (priority := high) Take.at [Deep τ] {x : τ} {i : Nat} [a : At L (Deep.ent x) i] [d : DelI L i R] : Take L x R := ⟨by
  have := Tr.front a.h; rwa [d.h] at this⟩
instance (priority := low) Take.plain [Deep τ] [p : Plain τ] {x : τ} : Take L x L := ⟨by rw [p.h]; exact Tr.emp'⟩
instance Take.own [Deep τ] [p : Plain τ] {enc : τ → Array Value} {c : Nat} [f : FlatT τ enc c] {s : Sv} {xs : List τ} {i : Nat} [a : At L (own enc c s xs) i] [d : DelI L i R] : Take L (⟨s, xs⟩ : Sl τ) R := ⟨by
  have := Tr.front a.h; rw [d.h] at this
  exact this.trans (Tr.shut_p (a := ⟨s, xs⟩))⟩
instance TakeL.nil [Deep τ] : TakeL L ([] : List τ) L := ⟨.refl⟩
instance TakeL.cons [Deep τ] {x : τ} {xs : List τ} [a : Take L x R1] [b : TakeL R1 xs R2] : TakeL L (x :: xs) R2 := ⟨a.h.trans (b.h.cons _)⟩
instance : Plain UInt8 := ⟨fun _ => rfl⟩
end

/-! Slices of values that reach memory. -/
section
variable {P : Program} {N : Fra} {w0 : World} {env : Env} {L R R1 R2 : List Ent} {l : List Oper} {Q : Exit → Act → World → Prop} {rest : List Oper} {d : Option Tmp} {ty : TypeId} {ps : String} {af : Array Edge}
variable {τ : Type} [dp : Deep τ] {enc : τ → Array Value} {c : Nat}
/-- append, in general: what the memory is told as ahead and behind. -/
theorem sq_appendG {α : Type} {enc : α → Array Value} {c : Nat} {s : Sv} {xs ys : List α} {t tx e : TypeId} {x y : Operand} {yv : Value} {by' : Nat} [ht : SlT P t e c by'] [he : Enc enc c] (R : List Ent) (hx : ev env x = some s.val) (hy : ev env y = some yv)
    (ho : ∀ w, Mem w0 L w → Mem w0 (own enc c s xs :: R) w) (hc : 0 < c) (hs : ∀ w, Mem w0 L w → Src P c tx yv ys.length (flatR enc ys) w) (hb : (xs.length + ys.length) * by' ≤ 140737488355328) (h63 : xs.length + ys.length ≤ 140737488355328)
    (hk : ∀ s' : Sv, Sq P N w0 l Q rest (putE env d s'.val) (own enc c s' (xs ++ ys) :: R)) (hd : dstOk N d = true := by rfl) :
    Sq P N w0 l Q (⟨d, .call { callee := .builtin .append, args := #[x, y], argTypes := #[t, tx] }, ty, ps, af, none⟩ :: rest) env L :=
  sq_run rfl hd fun a w ha hw => by
    obtain ⟨s', w', h1, h2, h3, h4⟩ := append_own (i := 0) (ty := ty) ht hc (ho w hw) rfl (hs w hw) hb h63
    refine ⟨s'.val, w', _, ?_, by simpa using h4, hk s'⟩
    simp [execOp, ha.ev hx, ha.ev hy, resolve, invoke, builtin, h1, Result.andThen]
/-- append of what is held alone to a slice that is. -/
theorem sq_appendD {s : Sv} {t tx e e' : TypeId} {x y : Operand} {by' m : Nat} [f : FlatT τ enc c] [ht : SlT P t e c by'] [ht' : SliceT P tx e' m] [he : Enc enc c] (a : Sl τ) (ys : List τ) (hx : ev env x = some a.sv.val) (hy : ev env y = some s.val) [q : Hd w0 L s enc c ys]
    [k1 : Take L a R1] [k2 : TakeL R1 ys R2] (hc : 0 < c) (hb : (a.xs.length + ys.length) * by' ≤ 140737488355328) (h63 : a.xs.length + ys.length ≤ 140737488355328)
    (hk : ∀ a' : Sl τ, a'.xs = a.xs ++ ys → Sq P N w0 l Q rest (putE env d a'.sv.val) (Deep.ent a' :: R2)) (hd : dstOk N d = true := by rfl) :
    Sq P N w0 l Q (⟨d, .call { callee := .builtin .append, args := #[x, y], argTypes := #[t, tx] }, ty, ps, af, none⟩ :: rest) env L :=
  sq_appendG (enc := enc) (c := c) (xs := a.xs) (ys := ys) (a.xs.map dp.ent ++ (ys.map dp.ent ++ R2)) hx hy (fun w hw => ((k1.h.trans (k2.h.cons _)).trans Tr.open_d).mem hw) hc (fun w hw => src_rows ht'.und hc (q.h w hw)) hb h63
    (fun s' aa w ha hw => hk ⟨s', a.xs ++ ys⟩ rfl aa w ha (by
      have t1 : Tr (own enc c s' (a.xs ++ ys) :: (a.xs.map dp.ent ++ (ys.map dp.ent ++ R2))) (Deep.ent (⟨s', a.xs ++ ys⟩ : Sl τ) :: R2) := by
        have := Tr.shut_d (enc := enc) (c := c) (a := (⟨s', a.xs ++ ys⟩ : Sl τ)) (L := R2)
        simpa using this
      exact t1.mem hw)) hd
/-- The nil slice. -/
theorem Mem.nilEnt {w : World} [f : FlatT τ enc c] (h : Mem w0 L w) : Mem w0 (Deep.ent (⟨Sv.none, []⟩ : Sl τ) :: L) w :=
  (Tr.shut_d (enc := enc) (c := c) (a := (⟨Sv.none, []⟩ : Sl τ)) (L := L)).mem (by simpa using h.nilOwn enc c)
theorem sq_ownD0 (τ : Type) [Deep τ] {enc : τ → Array Value} {c : Nat} [f : FlatT τ enc c] (h : Sq P N w0 l Q rest env (Deep.ent (⟨Sv.none, []⟩ : Sl τ) :: L)) : Sq P N w0 l Q rest env L := fun a w ha hw => h a w ha (Mem.nilEnt (enc := enc) (c := c) hw)
/-- Element i of a list of slices, nil where there is none. -/
def elAt {τ : Type} (s : Sl (Sl τ)) (i : Nat) : Sl τ := s.xs.getD i ⟨Sv.none, []⟩
theorem elAt_get {τ : Type} {s : Sl (Sl τ)} {i : Nat} {x : Sl τ} (h : s.xs[i]? = some x) : elAt s i = x := by simp [elAt, h]
theorem elAt_none {τ : Type} {s : Sl (Sl τ)} {i : Nat} (h : s.xs.length ≤ i) : elAt s i = ⟨Sv.none, []⟩ := by simp [elAt, h]
theorem elAt_xs {τ : Type} (s : Sl (Sl τ)) (i : Nat) : (elAt s i).xs = (lx s).getD i [] := by
  rcases Nat.lt_or_ge i s.xs.length with h | h
  · have : s.xs[i]? = some s.xs[i] := by simp [h]
    simp [elAt_get this, lx, h]
  · rw [elAt_none h]; simp [lx, h]
theorem good_none {h : Nat → Option Obj} : Deep.good h (⟨Sv.none, []⟩ : Sl τ) := ⟨Lies.nil _ _ _, fun _ hx => by cases hx⟩
def Sl.nil {τ : Type} : Sl τ := ⟨Sv.none, []⟩
instance HdD.none : HdD w0 L (Sl.nil : Sl τ) := ⟨fun _ _ => good_none⟩
instance HdD.elAt {s : Sl (Sl τ)} {i : Nat} [q : HdD w0 L s] : HdD w0 L (elAt s i) := ⟨fun w hw => by
  rcases Nat.lt_or_ge i s.xs.length with h | h
  · have hx : s.xs[i]? = some s.xs[i] := by simp [h]
    rw [elAt_get hx]; exact (q.h w hw).2 _ (List.mem_of_getElem? hx)
  · rw [elAt_none h]; exact good_none⟩
theorem Tr.nils {L : List Ent} [f : FlatT τ enc c] : ∀ n, Tr L ((List.replicate n (⟨Sv.none, []⟩ : Sl τ)).map Deep.ent ++ L)
  | 0 => .refl
  | n + 1 => by
    rw [List.replicate_succ, List.map_cons]
    exact (Tr.nils n).trans fun K w0 w hw => Mem.nilEnt (enc := enc) (c := c) hw
/-- make of a slice of slices. -/
theorem sq_makeD {t e : TypeId} {by' n cap : Nat} {x y : Operand} {k k' : IntKind} {ix iy : Int} [f : FlatT τ enc c] [ht : SlT P t e 1 by'] [hz : ZeroT P e (.slice none 0 0)] (hx : ev env x = some (.int k ix)) (hy : ev env y = some (.int k' iy)) (ex : ix = (n : Int)) (ey : iy = (cap : Int)) (hle : n ≤ cap) (hb : by' * cap ≤ 281474976710656) (h63 : cap ≤ 140737488355328)
    (hk : ∀ a : Sl (Sl τ), a.xs = List.replicate n ⟨Sv.none, []⟩ → Sq P N w0 l Q rest (putE env d a.sv.val) (Deep.ent a :: L)) (hd : dstOk N d = true := by rfl) :
    Sq P N w0 l Q (⟨d, .makeSlice t x y, ty, ps, af, none⟩ :: rest) env L :=
  sq_makeS (enc := scells (τ := τ)) (n := n) (cap := cap) (⟨Sv.none, []⟩ : Sl τ) rfl hx hy ex ey hle hb h63 (fun b a w ha hw => hk ⟨⟨false, b, 0, n, cap, none⟩, List.replicate n ⟨Sv.none, []⟩⟩ rfl a w ha
    (((Tr.nils (enc := enc) (c := c) n).cons _ |>.trans (Tr.shut_d (enc := scells) (c := 1) (a := (⟨⟨false, b, 0, n, cap, none⟩, List.replicate n ⟨Sv.none, []⟩⟩ : Sl (Sl τ))))).mem hw)) hd
end

section
variable {P : Program} {N : Fra} {w0 : World} {env : Env} {L : List Ent} {l : List Oper} {Q : Exit → Act → World → Prop} {rest : List Oper} {d : Option Tmp} {ty : TypeId} {ps : String} {af : Array Edge}
/-- copy of all of a slice into a block of the call's own. -/
theorem sq_copyS {α : Type} {enc : α → Array Value} {x y : Operand} {tx tys e : TypeId} {i b o dl dc : Nat} {sv : Sv} {ys : List α} {cs : Array Value} {T : TypeId} (hx : ev env x = some (.slice (some ⟨b, o, none⟩) dl dc)) (hy : ev env y = some sv.val)
    [ht : SliceT P tx e 1] [hh : Has L b cs T i] [q : Hd w0 L sv enc 1 ys] [he : Enc enc 1] (h0 : 0 < ys.length) (hl : ys.length ≤ dl) (ho : o + ys.length ≤ cs.size)
    {cs' : Array Value} {L' : List Ent} (hcs : over cs o (flatR enc ys).toArray = cs') [hu : Upd L i (blk b cs' T) L'] (hk : Sq P N w0 l Q rest (putE env d (.int .i64 (ys.length : Nat))) L') (hd : dstOk N d = true := by rfl) :
    Sq P N w0 l Q (⟨d, .call { callee := .builtin .copy, args := #[x, y], argTypes := #[tx, tys] }, ty, ps, af, none⟩ :: rest) env L := fun a w ha hw => by
  have r := q.h w hw
  have hn := r.some (i := 0) h0
  have hlen := r.len
  rw [Sv.val_some hn, r.ok.sp (by have := r.ok.le; omega)] at hy
  have hs : (flatR enc ys).toArray.size = ys.length := by rw [List.size_toArray, flatR_length, Nat.mul_one]
  have hk' := hk
  rw [← hs] at hk'
  refine sq_copy (vs := (flatR enc ys).toArray) hx hy ?_ (fun w hw j hj => ?_) ?_ (by rw [hs]; exact ho) hcs hk' hd a w ha hw
  · rw [hs]; simp only [Nat.min_def]; split <;> omega
  · rw [hs] at hj
    have := flatR_get (enc := enc) ys j ys[j] (by simp [hj]) 0 (by decide)
    have r2 := (q.h w hw).row j ys[j] (by simp [hj]) 0 (by decide)
    simp only [Nat.mul_one, Nat.add_zero] at this r2
    rw [Addr.add_none, cell_hp, r2, ← this]; simp
  · rw [Array.all_eq_true_iff_forall_mem]; intro v hv; exact flatR_one (enc := enc) ys v (by simpa using hv)
end

theorem Sv.cells_val (s : Sv) : s.val.cells = #[s.val] := by unfold Sv.val; split <;> rfl
/-- One slice of a slice of slices, in hand; and laid back. -/
theorem Tr.pick1 {τ : Type} [Deep τ] [Plain τ] {enc : τ → Array Value} {c : Nat} [FlatT τ enc c] {a : Sl (Sl τ)} {x : Sl τ} {i : Nat} {B : List Ent} (hx : a.xs[i]? = some x) :
    Tr (B ++ [Deep.ent a]) (own scells 1 a.sv a.xs :: own enc c x.sv x.xs :: (B ++ (a.xs.eraseIdx i).map Deep.ent)) := by
  refine (Tr.perm (List.perm_append_comm (l₁ := B) (l₂ := [Deep.ent a]))).trans ?_
  refine (Tr.pick (L := B) hx).trans (Tr.cons (Tr.open_p.trans (Tr.cons (Tr.perm List.perm_append_comm) _)) _)
theorem Tr.lay1 {τ : Type} [Deep τ] [Plain τ] {enc : τ → Array Value} {c : Nat} [FlatT τ enc c] {s y : Sv} {xs : List (Sl τ)} {ys : List τ} {i : Nat} {B : List Ent} (hi : i < xs.length) :
    Tr (own scells 1 s (xs.set i ⟨y, ys⟩) :: own enc c y ys :: (B ++ (xs.eraseIdx i).map Deep.ent)) (Deep.ent (⟨s, xs.set i ⟨y, ys⟩⟩ : Sl (Sl τ)) :: B) := by
  refine Tr.trans ?_ (Tr.lay (L := B) hi)
  exact Tr.cons ((Tr.shut_p (a := (⟨y, ys⟩ : Sl τ))).trans (Tr.cons (Tr.perm List.perm_append_comm) _)) _

theorem sq_storeSv {P : Program} {N : Fra} {w0 : World} {env : Env} {L : List Ent} {l : List Oper} {Q : Exit → Act → World → Prop} {rest : List Oper} {ty : TypeId} {ps : String} {af : Array Edge} {τ : Type} {t : TypeId} {x y : Operand} {i k p : Nat} {s : Sv} {xs : List (Sl τ)} {a : Sl τ} (a' : Sl τ)
    (sz : (P.info? t).map (·.size) = some 1) (hx : ev env x = some (.pointer (some ⟨s.b, p, none⟩))) (hy : ev env y = some a'.sv.val) [q : Owns L s (scells (τ := τ)) 1 xs i] (hp' : p = s.o + k * 1) (ha : xs[k]? = some a) {L' : List Ent} [hu : Upd L i (own scells 1 s (xs.set k a')) L'] (hk : Sq P N w0 l Q rest env L') :
    Sq P N w0 l Q (⟨none, .store t x y, ty, ps, af, none⟩ :: rest) env L :=
  sq_storeS (j := 0) (a' := a') sz hx hy (q := q) hp' ha (by rw [Sv.cells_val]; simp [Sv.one]) (by rw [Sv.cells_val]; rfl) (by decide) (by rw [Sv.cells_val]; rfl) hk

/-! Guards that are known. -/
section
variable {P : Program} {N : Fra} {w0 : World} {env : Env} {L : List Ent} {l : List Oper} {Q : Exit → Act → World → Prop} {rest : List Oper} {d : Option Tmp} {ty : TypeId} {ps : String} {af : Array Edge} {gd : Option (Nat × Bool)}
variable {fs : List Nat} {F : Act → Prop} {k : Nat}
theorem sq_ty {o : Oper} {v : Value} {j t : Nat} {b g : Bool} (hg : o.guard = some (j, b)) (hj : (l[j]?).bind (·.dst) = some t) (hv : look env t = some (.bool g)) (ht : g = b) (h : Yl P N w0 env L o v)
    (hk : Sq P N w0 l Q rest (putE env o.dst v) L) (hd : dstOk N o.dst = true := by rfl) : Sq P N w0 l Q (o :: rest) env L := fun a w ha hw => by
  unfold wpList
  rw [wanted_some ha hg hj hv, ht, beq_self_eq_true, if_pos rfl]
  exact .inl (wp_of_yl ha hw h fun w' hw' => hk _ _ (ha.put hd v) hw')
theorem qt_ty {o : Oper} {v : Value} {j t : Nat} {b g : Bool} (hg : o.guard = some (j, b)) (hj : (l[j]?).bind (·.dst) = some t) (hv : look env t = some (.bool g)) (ht : g = b) (h : Yl P N w0 env L o v)
    (hk : Qt P N w0 l fs F (k + 1) rest (putE env o.dst v) L) (hd : dstOk N o.dst = true := by rfl) (hf : fs.contains k = false := by rfl) : Qt P N w0 l fs F k (o :: rest) env L := fun a ha => by
  unfold wpHead
  rw [if_neg (by rw [hf]; exact Bool.false_ne_true), wanted_some ha hg hj hv, ht, beq_self_eq_true, if_pos rfl]
  exact ⟨v, h a ha, hk _ (ha.put hd v)⟩
theorem sq_tcallC {X : Type} {val : X → Value} {L' : X → List Ent} {pr : X → Prop} {pre : Prop} {f : FuncId} {xs : List Operand} {ts : Array TypeId} {vs : List Value} {j t : Nat} {b g : Bool} (hj : (l[j]?).bind (·.dst) = some t) (hv : look env t = some (.bool g)) (ht : g = b) [hf : IsFn P f] (hx : evl env xs = some vs)
    [hc : FnC P f w0 L vs X val L' pr pre] (hp : pre) (hk : ∀ x, pr x → Sq P N w0 l Q rest (putE env d (val x)) (L' x)) (hd : dstOk N d = true := by rfl) :
    Sq P N w0 l Q (⟨d, .call { callee := .value (.func f), args := xs.toArray, argTypes := ts }, ty, ps, af, some (j, b)⟩ :: rest) env L := fun a w ha hw => by
  unfold wpList
  rw [wanted_some ha rfl hj hv, ht, beq_self_eq_true, if_pos rfl]
  refine .inl ?_
  unfold Oper.wp
  rw [run_call hf w rfl, ha.evl hx]
  exact (hc.h hp w hw).mono fun e w' ⟨x, he, hpx, hm⟩ => by subst he; exact hk x hpx _ _ (ha.put hd _) hm
/-- A guard that is known not to hold: nothing is done. -/
theorem sq_fy {o : Oper} {j t : Nat} {b g : Bool} (hg : o.guard = some (j, b)) (hj : (l[j]?).bind (·.dst) = some t) (hv : look env t = some (.bool g)) (ht : g = !b)
    (hk : Sq P N w0 l Q rest (putE env o.dst undef) L) (hd : dstOk N o.dst = true := by rfl) : Sq P N w0 l Q (o :: rest) env L := fun a w ha hw => by
  unfold wpList
  rw [wanted_some ha hg hj hv, ht, if_neg (by cases b <;> simp)]
  exact hk _ _ (ha.put hd undef) hw
end
theorem ry_pickT {P : Program} {N : Fra} {w0 : World} {env : Env} {L : List Ent} {d : Option Tmp} {ty : TypeId} {ps : String} {af : Array Edge} {gd : Option (Nat × Bool)} {c x y : Operand} {g : Bool} {v : Value} (hc : ev env c = some (.bool g)) (ht : g = true) (hx : ev env x = some v) (hy : ev env y = some (.bool false)) :
    Ry P N w0 env L ⟨d, .pick c x y, ty, ps, af, gd⟩ v := by
  subst ht
  have h := ry_pick (P := P) (N := N) (w0 := w0) (L := L) (d := d) (ty := ty) (ps := ps) (af := af) (gd := gd) hc hx hy
  simpa using h
theorem ry_pickF {P : Program} {N : Fra} {w0 : World} {env : Env} {L : List Ent} {d : Option Tmp} {ty : TypeId} {ps : String} {af : Array Edge} {gd : Option (Nat × Bool)} {c x y : Operand} {g : Bool} {v : Value} (hc : ev env c = some (.bool g)) (ht : g = false) (hx : ev env x = some (.bool true)) (hy : ev env y = some v) :
    Ry P N w0 env L ⟨d, .pick c x y, ty, ps, af, gd⟩ v := by
  subst ht
  have h := ry_pick (P := P) (N := N) (w0 := w0) (L := L) (d := d) (ty := ty) (ps := ps) (af := af) (gd := gd) hc hx hy
  simpa using h
end Go.Eng

/- A region that draws its order, told in one line: operations that only read and yield stand wherever; what makes or writes memory goes one behind the other. -/
set_option linter.unusedSimpArgs false
set_option linter.unusedVariables false
namespace Go.Eng
section
variable {P : Program} {l : List Oper} {Q : Exit → Act → World → Prop} {fs : List Nat} {w0 : World}

def upon (P : Program) (w : World) (R : Value → World → Prop) : Result Next → Prop
  | .ok (.value v) w' => R v w'
  | .ok .skip w' => R undef w'
  | .ok (.enter f args) w' => w' = w ∧ Calls P f args w fun e w'' => ∃ v, e = .returned v ∧ R v w''
  | _ => False

/-- The region's operations in the line ord. af: the frame of the line; Lq: the memory that quiet operations may still look at later. -/
def Lin (P : Program) (l : List Oper) (fs : List Nat) (Q : Exit → Act → World → Prop) (w0 : World) : List Nat → Act → List Ent → List Ent → Prop
  | [], af, L, _ => ∀ w, Mem w0 L w → Q .normal af w
  | k :: ord, af, L, Lq => ∃ o, l[k]? = some o ∧ (if fs.contains k = true then
      o.guard = none ∧ ∀ w, Mem w0 L w → upon P w (fun v w' => ∃ L' Lq', Mem w0 L' w' ∧ (∀ w, Mem w0 L' w → Mem w0 Lq' w) ∧ (∀ w, Mem w0 Lq' w → Mem w0 Lq w) ∧ Lin P l fs Q w0 ord (af.put o.dst v) L' Lq') ((execOp af.eval o).run P w)
    else ∃ v, (Region.wanted o (yielded l.toArray af.tmps) = true → quietR P o af (Mem w0 Lq) v) ∧ (Region.wanted o (yielded l.toArray af.tmps) = false → v = undef) ∧ Lin P l fs Q w0 ord (af.put o.dst v) L Lq)

def deps (o : Oper) : List Nat := (o.after.toList.filter fun e => Region.binds .any e).map (·.on)

/-- One operation of the line, behind prev, of which seen make or write. -/
def linOp (l : List Oper) (fs : List Nat) (A : List (List Nat)) (prev seen : List Nat) (k : Nat) (o : Oper) : Bool :=
  (match o.op with | .select .. => false | _ => true) &&
  ((deps o).all fun j => decide (j < k)) &&
  (seen.all fun f => (A.getD k []).contains f) &&
  ((A.getD k []).all fun f => (deps o).any fun j => j == f || (A.getD j []).contains f) &&
  ((List.range l.length).all fun j => match dstAt l j with
    | none => true
    | some d => (!(o.looksAt l.toArray).contains d || (prev.contains j && (deps o).contains j)) && (j == k || o.dst != some d))
def linGo (l : List Oper) (fs : List Nat) (A : List (List Nat)) : List Nat → List Nat → List Nat → Bool
  | _, _, [] => true
  | prev, seen, k :: ord => (match l[k]? with | none => false | some o => linOp l fs A prev seen k o) && linGo l fs A (k :: prev) (if fs.contains k then k :: seen else seen) ord
def linB (l : List Oper) (fs : List Nat) (A : List (List Nat)) (ord : List Nat) : Bool :=
  ((List.range l.length).all fun j => ord.contains j) && decide ord.Nodup && (ord.all fun j => decide (j < l.length)) && linGo l fs A [] [] ord

structure OpOk (l : List Oper) (fs : List Nat) (A : List (List Nat)) (prev seen : List Nat) (k : Nat) (o : Oper) : Prop where
  nosel : ∀ cs b, o.op ≠ .select cs b
  back : ∀ e ∈ o.after, Region.binds .any e = true → e.on < k
  anc : ∀ f ∈ seen, f ∈ A.getD k []
  cert : ∀ f ∈ A.getD k [], ∃ e ∈ o.after, Region.binds .any e = true ∧ (e.on = f ∨ f ∈ A.getD e.on [])
  reads : ∀ j d, j < l.length → dstAt l j = some d → d ∈ o.looksAt l.toArray → j ∈ prev ∧ ∃ e ∈ o.after, Region.binds .any e = true ∧ e.on = j
  one : ∀ j d, j < l.length → dstAt l j = some d → j ≠ k → o.dst ≠ some d

theorem mem_deps {o : Oper} {j : Nat} : j ∈ deps o ↔ ∃ e ∈ o.after, Region.binds .any e = true ∧ e.on = j := by
  unfold deps
  simp only [List.mem_map, List.mem_filter]
  constructor
  · rintro ⟨e, ⟨h1, h2⟩, h3⟩; exact ⟨e, by simpa using h1, h2, h3⟩
  · rintro ⟨e, h1, h2, h3⟩; exact ⟨e, ⟨by simpa using h1, h2⟩, h3⟩

theorem linOp_spec {A : List (List Nat)} {prev seen : List Nat} {k : Nat} {o : Oper} (h : linOp l fs A prev seen k o = true) : OpOk l fs A prev seen k o := by
  simp only [linOp, Bool.and_eq_true] at h
  obtain ⟨⟨⟨⟨h1, h2⟩, h3⟩, h4⟩, h5⟩ := h
  refine ⟨fun cs b e => by rw [e] at h1; simp at h1, fun e he hb => ?_, fun f hf => ?_, fun f hf => ?_, fun j d hj hd hl => ?_, fun j d hj hd hne => ?_⟩
  · have := List.all_eq_true.1 h2 e.on (mem_deps.2 ⟨e, he, hb, rfl⟩)
    simpa using this
  · have := List.all_eq_true.1 h3 f hf
    simpa using this
  · have := List.all_eq_true.1 h4 f hf
    obtain ⟨j, hj, hj2⟩ := List.any_eq_true.1 this
    obtain ⟨e, he, hb, rfl⟩ := mem_deps.1 hj
    exact ⟨e, he, hb, by simpa using hj2⟩
  · have := List.all_eq_true.1 h5 j (List.mem_range.2 hj)
    rw [hd] at this
    simp only [Bool.and_eq_true, Bool.or_eq_true, Bool.not_eq_true'] at this
    rcases this.1 with h6 | h6
    · exact absurd hl (by simpa using h6)
    · exact ⟨by simpa using h6.1, mem_deps.1 (by simpa using h6.2)⟩
  · have := List.all_eq_true.1 h5 j (List.mem_range.2 hj)
    rw [hd] at this
    simp only [Bool.and_eq_true, Bool.or_eq_true, beq_iff_eq] at this
    rcases this.2 with h6 | h6
    · exact absurd h6 hne
    · simpa using h6

/-- What is asked of each operation, by its place in the line. -/
theorem linGo_spec {A : List (List Nat)} : ∀ (ord prev seen : List Nat), linGo l fs A prev seen ord = true → ∀ (x : List Nat) (k : Nat) (y : List Nat), ord = x ++ k :: y →
    ∃ o, l[k]? = some o ∧ OpOk l fs A (x.reverse ++ prev) ((x.filter fun j => fs.contains j).reverse ++ seen) k o
  | [], _, _, _, x, k, y, e => by simp at e
  | k0 :: ord, prev, seen, h, x, k, y, e => by
    simp only [linGo, Bool.and_eq_true] at h
    cases x with
    | nil =>
      simp only [List.nil_append, List.cons.injEq] at e
      obtain ⟨rfl, rfl⟩ := e
      cases ho : l[k0]? with
      | none => rw [ho] at h; simp at h
      | some o => rw [ho] at h; exact ⟨o, rfl, by simpa using linOp_spec h.1⟩
    | cons x0 x =>
      simp only [List.cons_append, List.cons.injEq] at e
      obtain ⟨rfl, rfl⟩ := e
      obtain ⟨o, ho, hk⟩ := linGo_spec _ _ _ h.2 x k y rfl
      refine ⟨o, ho, ?_⟩
      have e1 : (k0 :: x).reverse ++ prev = x.reverse ++ (k0 :: prev) := by simp
      have e2 : (((k0 :: x).filter fun j => fs.contains j).reverse ++ seen) = (x.filter fun j => fs.contains j).reverse ++ (if fs.contains k0 then k0 :: seen else seen) := by
        cases hc : fs.contains k0 with
        | true =>
          rw [List.filter_cons, if_pos hc, List.reverse_cons, List.append_assoc]; rfl
        | false =>
          rw [List.filter_cons, if_neg (by rw [hc]; exact Bool.false_ne_true)]; rfl
      rw [e1, e2]; exact hk

def slotIs (N0 d : Nat) (v : Value) (a : Act) : Prop := a.tmps[d]? = if d < N0 then some v else none
theorem slotIs_put {N0 d : Nat} {v : Value} {a : Act} (h : a.tmps.size = N0) : slotIs N0 d v (a.put (some d) v) := by
  subst h
  unfold slotIs
  simp [Act.put, Array.getElem?_setIfInBounds]

/-- Operation k is still to come, and yields its part of the line's frame. -/
def Pend (P : Program) (l : List Oper) (w0 : World) (N0 k : Nat) (af : Act) (Lq : List Ent) : Prop :=
  ∃ o v, l[k]? = some o ∧ (∀ d, o.dst = some d → slotIs N0 d v af) ∧ (Region.wanted o (yielded l.toArray af.tmps) = true → quietR P o af (Mem w0 Lq) v) ∧ (Region.wanted o (yielded l.toArray af.tmps) = false → v = undef)

structure Core (P : Program) (l : List Oper) (fs : List Nat) (Q : Exit → Act → World → Prop) (w0 : World) (ord : List Nat) (a0 : Act) (pre suf : List Nat) (af : Act) (L Lq : List Ent) (listed : Array Bool) (a : Act) (w : World) : Prop where
  ord : ord = pre ++ suf
  inv : HeadInv .any l.toArray l.length listed
  mem : Mem w0 L w
  sees : ∀ w, Mem w0 L w → Mem w0 Lq w
  lin : Lin P l fs Q w0 suf af L Lq
  size : a.tmps.size = a0.tmps.size
  sizef : af.tmps.size = a0.tmps.size
  defers : a.defers = a0.defers
  defersf : af.defers = a0.defers
  sub : ∀ j, j < l.length → listed.getD j true = true → j ∈ pre
  fresh : ∀ j ∈ pre, fs.contains j = true → listed.getD j true = true
  pend : ∀ j ∈ pre, listed.getD j true = false → Pend P l w0 a0.tmps.size j af Lq
  done : ∀ j d, j < l.length → listed.getD j true = true → dstAt l j = some d → a.tmps[d]? = af.tmps[d]?
  rest : ∀ d, (∀ j, j < l.length → listed.getD j true = true → dstAt l j ≠ some d) → a.tmps[d]? = a0.tmps[d]?
  full : ∀ d, (∀ j ∈ pre, dstAt l j ≠ some d) → af.tmps[d]? = a0.tmps[d]?

variable {A : List (List Nat)} {ord : List Nat} {a0 : Act}

theorem looks_same {o : Oper} (hn : ∀ cs b, o.op ≠ .select cs b) {a b : Act} (h : ∀ t ∈ o.looksAt l.toArray, a.tmps[t]? = b.tmps[t]?) :
    execOp a.eval o = execOp b.eval o ∧ Region.wanted o (yielded l.toArray a.tmps) = Region.wanted o (yielded l.toArray b.tmps) :=
  ⟨execOp_congr o hn (eval_same h), wanted_same h⟩
theorem quietR_congr {o : Oper} {a b : Act} {C D : World → Prop} {v : Value} (e : execOp a.eval o = execOp b.eval o) (hD : ∀ w, D w → C w) (h : quietR P o a C v) : quietR P o b D v := fun w hw => by
  have := h w (hD w hw)
  unfold Oper.quietAt at this ⊢
  rw [← e]; exact this

/-- What is pending stays so when the line goes on by operation i. -/
theorem pend_put {pre suf : List Nat} {i k N0 : Nat} {af : Act} {Lq Lq' : List Ent} {oi : Oper} {u : Value} (hB : linGo l fs A [] [] ord = true) (hnd : ord.Nodup) (hlt : ∀ j ∈ ord, j < l.length) (ho : ord = pre ++ i :: suf) (hio : l[i]? = some oi) (hk : k ∈ pre) (hq : ∀ w, Mem w0 Lq' w → Mem w0 Lq w)
    (h : Pend P l w0 N0 k af Lq) : Pend P l w0 N0 k (af.put oi.dst u) Lq' := by
  obtain ⟨o, v, h1, h2, h3, h4⟩ := h
  obtain ⟨x, y, rfl⟩ := List.append_of_mem hk
  have ho' : ord = x ++ k :: (y ++ i :: suf) := by rw [ho]; simp
  obtain ⟨o', hko, hok⟩ := linGo_spec ord [] [] hB x k _ ho'
  have : o' = o := by rw [h1] at hko; exact (Option.some.inj hko).symm
  subst this
  have hil : i < l.length := (List.getElem?_eq_some_iff.1 hio).1
  have hdi : dstAt l i = oi.dst := by simp [dstAt, hio]
  have hik : i ≠ k := fun e => by
    subst e
    rw [ho'] at hnd
    have := (List.nodup_append.1 hnd).2.1
    exact (List.nodup_cons.1 this).1 (by simp)
  have hix : i ∉ x := fun hx => by
    rw [ho'] at hnd
    exact (List.nodup_append.1 hnd).2.2 i hx i (by simp) rfl
  have hlook : ∀ t ∈ o'.looksAt l.toArray, af.tmps[t]? = (af.put oi.dst u).tmps[t]? := fun t ht => by
    refine (put_get _ _ _ _ fun e => ?_).symm
    obtain ⟨hp, _⟩ := hok.reads i t hil (by rw [hdi]; exact e) ht
    rw [List.append_nil, List.mem_reverse] at hp
    exact hix hp
  obtain ⟨e1, e2⟩ := looks_same hok.nosel hlook
  refine ⟨o', v, h1, fun d hd => ?_, fun hw => quietR_congr e1 hq (h3 (by rw [e2]; exact hw)), fun hw => h4 (by rw [e2]; exact hw)⟩
  have := h2 d hd
  unfold slotIs at this ⊢
  rw [put_get _ _ _ _ fun e => ?_]
  · exact this
  · exact hok.one i d hil (by rw [hdi]; exact e) hik hd

/-- The line goes on as far as the next operation that makes or writes. -/
theorem core_adv (hB : linGo l fs A [] [] ord = true) (hnd : ord.Nodup) (hlt : ∀ j ∈ ord, j < l.length) : ∀ (suf pre : List Nat) (af : Act) {L Lq : List Ent} {listed : Array Bool} {a : Act} {w : World}, Core P l fs Q w0 ord a0 pre suf af L Lq listed a w →
    ∃ pre' suf' af', Core P l fs Q w0 ord a0 pre' suf' af' L Lq listed a w ∧ (suf' = [] ∨ ∃ f r, suf' = f :: r ∧ fs.contains f = true)
  | [], pre, af, _, _, _, _, _, H => ⟨pre, [], af, H, .inl rfl⟩
  | k :: suf, pre, af, L, Lq, listed, a, w, H => by
    cases hf : fs.contains k with
    | true => exact ⟨pre, k :: suf, af, H, .inr ⟨k, suf, rfl, hf⟩⟩
    | false =>
      obtain ⟨o, hko, hl⟩ := H.lin
      rw [if_neg (by rw [hf]; exact Bool.false_ne_true)] at hl
      obtain ⟨v, h1, h2, h3⟩ := hl
      obtain ⟨o', hko', hok⟩ := linGo_spec ord [] [] hB pre k suf H.ord
      have : o' = o := by rw [hko] at hko'; exact (Option.some.inj hko').symm
      subst this
      have hkl : k < l.length := (List.getElem?_eq_some_iff.1 hko).1
      have hdk : dstAt l k = o'.dst := by simp [dstAt, hko]
      have hkp : k ∉ pre := fun h => by
        have hnd' := hnd
        rw [H.ord] at hnd'
        exact (List.nodup_append.1 hnd').2.2 k h k (by simp) rfl
      have hun : ∀ j, j ∈ pre → j ≠ k := fun j hj e => hkp (e ▸ hj)
      have hlook : ∀ t ∈ o'.looksAt l.toArray, af.tmps[t]? = (af.put o'.dst v).tmps[t]? := fun t ht => by
        refine (put_get _ _ _ _ fun e => ?_).symm
        obtain ⟨hp, _⟩ := hok.reads k t hkl (by rw [hdk]; exact e) ht
        rw [List.append_nil, List.mem_reverse] at hp
        exact hkp hp
      obtain ⟨e1, e2⟩ := looks_same hok.nosel hlook
      refine core_adv hB hnd hlt suf (pre ++ [k]) (af.put o'.dst v) ⟨by rw [H.ord]; simp, H.inv, H.mem, H.sees, h3, H.size, by rw [put_size]; exact H.sizef, H.defers, by rw [put_def]; exact H.defersf, fun j hj hl => List.mem_append_left _ (H.sub j hj hl), fun j hj hf' => ?_, fun j hj hl => ?_, fun j d hj hl hd => ?_, H.rest, fun d hd => ?_⟩
      · rcases List.mem_append.1 hj with h | h
        · exact H.fresh j h hf'
        · obtain rfl := List.mem_singleton.1 h
          rw [hf] at hf'; cases hf'
      · rcases List.mem_append.1 hj with h | h
        · exact pend_put hB hnd hlt H.ord hko h (fun _ h => h) (H.pend j h hl)
        · obtain rfl := List.mem_singleton.1 h
          refine ⟨o', v, hko, fun d hd => by rw [hd]; exact slotIs_put H.sizef, fun hw => quietR_congr e1 (fun _ h => h) (h1 (by rw [e2]; exact hw)), fun hw => h2 (by rw [e2]; exact hw)⟩
      · rw [put_get _ _ _ _ (hok.one j d hj hd (hun j (H.sub j hj hl)))]
        exact H.done j d hj hl hd
      · rw [put_get _ _ _ _ (by have := hd k (by simp); rwa [hdk] at this)]
        exact H.full d fun j hj => hd j (List.mem_append_left _ hj)

/-- The certificate of what stands ahead. -/
theorem cert_listed {listed : Array Bool} (hB : linGo l fs A [] [] ord = true) (hin : ∀ j, j < l.length → j ∈ ord) (inv : HeadInv .any l.toArray l.length listed) : ∀ (k : Nat) (o : Oper), l[k]? = some o → (∀ e ∈ o.after, Region.binds .any e = true → listed.getD e.on false = true) →
    ∀ f ∈ A.getD k [], listed.getD f false = true := by
  intro k
  induction k using Nat.strongRecOn with
  | _ k ih =>
    intro o hko hd f hf
    obtain ⟨x, y, hx⟩ := List.append_of_mem (hin k (List.getElem?_eq_some_iff.1 hko).1)
    obtain ⟨o', hko', hok⟩ := linGo_spec ord [] [] hB x k y hx
    have : o' = o := by rw [hko] at hko'; exact (Option.some.inj hko').symm
    subst this
    obtain ⟨e, he, hb, h⟩ := hok.cert f hf
    have hl := hd e he hb
    rcases h with rfl | h
    · exact hl
    · have hlt := hok.back e he hb
      have hel : e.on < l.length := by have := (List.getElem?_eq_some_iff.1 hko).1; omega
      exact ih e.on hlt l[e.on] (by simp [hel]) (inv.closed e.on _ (by simp [hel]) hl) f h

theorem getD_tf {listed : Array Bool} {i : Nat} (hi : i < listed.size) (h : listed.getD i false = true) : listed.getD i true = true := by
  simp [hi] at h ⊢; exact h

theorem any_of_core (hB : linGo l fs A [] [] ord = true) (hnd : ord.Nodup) (hlt : ∀ j ∈ ord, j < l.length) (hin : ∀ j, j < l.length → j ∈ ord) :
    ∀ (m : Nat) (pre suf : List Nat) (af : Act) (L Lq : List Ent) (listed : Array Bool) (a : Act) (w : World), left l.length listed = m → Core P l fs Q w0 ord a0 pre suf af L Lq listed a w → wpAny P .any l.toArray Q m listed a w
  | 0, pre, suf, af, L, Lq, listed, a, w, hm, H => by
    have hall : ∀ j, j < l.length → listed.getD j true = true := fun j hj => by
      cases h : listed.getD j true with
      | true => rfl
      | false =>
        have : j ∈ (List.range l.length).filter fun i => !listed.getD i true := List.mem_filter.2 ⟨List.mem_range.2 hj, by rw [h]; rfl⟩
        rw [List.length_eq_zero_iff.1 hm] at this
        cases this
    have hr : Region.ready .any l.toArray listed = [] := by
      refine List.eq_nil_iff_forall_not_mem.2 fun i hi => ?_
      obtain ⟨h1, o, h2, _⟩ := mem_ready.1 hi
      rw [hall i (by have := (Array.getElem?_eq_some_iff.1 h2).1; simpa using this)] at h1; cases h1
    have hsuf : suf = [] := by
      cases hs : suf with
      | nil => rfl
      | cons k r =>
        have hk : k ∈ ord := by rw [H.ord, hs]; simp
        have := H.sub k (hlt k hk) (hall k (hlt k hk))
        have hnd' := hnd
        rw [H.ord, hs] at hnd'
        exact absurd rfl ((List.nodup_append.1 hnd').2.2 k this k (by simp))
    have hlin := H.lin
    rw [hsuf] at hlin
    have e1 : a = af := by
      have : a.tmps = af.tmps := by
        apply Array.ext_getElem?
        intro d
        by_cases hw : ∃ j, j < l.length ∧ dstAt l j = some d
        · obtain ⟨j, hj, hd⟩ := hw
          exact H.done j d hj (hall j hj) hd
        · have h1 : ∀ j, j < l.length → dstAt l j ≠ some d := fun j hj hd => hw ⟨j, hj, hd⟩
          rw [H.rest d fun j hj _ => h1 j hj, H.full d fun j hj => h1 j (hlt j (by rw [H.ord]; exact List.mem_append_left _ hj))]
      have h2 : a.defers = af.defers := by rw [H.defers, H.defersf]
      cases a; cases af
      simp_all
    subst e1
    exact ⟨hr, hlin w H.mem⟩
  | m + 1, pre0, suf0, af0, L, Lq, listed, a, w, hm, H0 => by
    obtain ⟨pre, suf, af, H, hsuf⟩ := core_adv hB hnd hlt suf0 pre0 af0 H0
    obtain ⟨i0, hi0, hun0, hmin⟩ : ∃ i, i < l.length ∧ listed.getD i true = false ∧ ∀ j, j < i → listed.getD j true = true := by
      have hne : ∃ i, i < l.length ∧ listed.getD i true = false := by
        cases hf : (List.range l.length).filter fun i => !listed.getD i true with
        | nil => rw [left, hf] at hm; cases hm
        | cons i r =>
          have : i ∈ (List.range l.length).filter fun i => !listed.getD i true := by rw [hf]; simp
          obtain ⟨h1, h2⟩ := List.mem_filter.1 this
          exact ⟨i, List.mem_range.1 h1, by simpa using h2⟩
      obtain ⟨i, h1, h2⟩ := hne
      induction i using Nat.strongRecOn with
      | _ i ih =>
        by_cases h : ∃ j, j < i ∧ listed.getD j true = false
        · obtain ⟨j, hj, hj2⟩ := h
          exact ih j hj (by omega) hj2
        · refine ⟨i, h1, h2, fun j hj => ?_⟩
          cases hh : listed.getD j true with
          | true => rfl
          | false => exact absurd ⟨j, hj, hh⟩ h
    have hsz : listed.size = l.length := by simpa using H.inv.size
    have ok : ∀ k, k < l.length → ∃ x y o, ord = x ++ k :: y ∧ l[k]? = some o ∧ OpOk l fs A (x.reverse ++ []) ((x.filter fun j => fs.contains j).reverse ++ []) k o := fun k hk => by
      obtain ⟨x, y, hx⟩ := List.append_of_mem (hin k hk)
      obtain ⟨o, ho, hok⟩ := linGo_spec ord [] [] hB x k y hx
      exact ⟨x, y, o, hx, ho, hok⟩
    have hready : i0 ∈ Region.ready .any l.toArray listed := by
      obtain ⟨x, y, o, _, ho, hok⟩ := ok i0 hi0
      refine mem_ready.2 ⟨hun0, o, by simpa using ho, fun e he hb => ?_⟩
      have h1 := hok.back e he hb
      have h2 := hmin e.on h1
      have h3 : e.on < listed.size := by omega
      simp [h3] at h2 ⊢; exact h2
    refine ⟨fun h => (by rw [h] at hready; cases hready), fun i hi => ?_⟩
    obtain ⟨hun, o', ho', hdep⟩ := mem_ready.1 hi
    have hin' : i < l.length := by have := (Array.getElem?_eq_some_iff.1 ho').1; simpa using this
    obtain ⟨x, y, o, hx, ho, hok⟩ := ok i hin'
    have : o' = o := by simpa [ho] using ho'.symm
    subst this
    have hleft : left l.length (listed.setIfInBounds i true) = m := by have := left_set hin' hun; omega
    have hdi : dstAt l i = o'.dst := by simp [dstAt, ho]
    have getne : ∀ j, j ≠ i → (listed.setIfInBounds i true).getD j true = listed.getD j true := fun j hji => getD_set_ne true (Ne.symm hji)
    have geti : (listed.setIfInBounds i true).getD i true = true := by simp [show i < listed.size by omega]
    have hone : ∀ j d, j < l.length → dstAt l j = some d → j ≠ i → o'.dst ≠ some d := hok.one
    have hlook : ∀ t ∈ o'.looksAt l.toArray, a.tmps[t]? = af.tmps[t]? := fun t ht => by
      by_cases hw : ∃ j, j < l.length ∧ dstAt l j = some t
      · obtain ⟨j, hj, hd⟩ := hw
        obtain ⟨_, e, he, hb, hon⟩ := hok.reads j t hj hd ht
        have hl := hdep e he hb
        rw [hon] at hl
        exact H.done j t hj (getD_tf (by omega) hl) hd
      · have h1 : ∀ j, j < l.length → dstAt l j ≠ some t := fun j hj hd => hw ⟨j, hj, hd⟩
        rw [H.rest t fun j hj _ => h1 j hj, H.full t fun j hj => h1 j (hlt j (by rw [H.ord]; exact List.mem_append_left _ hj))]
    obtain ⟨ee, ew⟩ := looks_same hok.nosel hlook
    by_cases hip : i ∈ pre
    · -- a quiet operation
      obtain ⟨op, v, hop, hv1, hv2, hv3⟩ := H.pend i hip hun
      have : op = o' := by rw [ho] at hop; exact (Option.some.inj hop).symm
      subst this
      have hfi : fs.contains i = false := by
        cases h : fs.contains i with
        | false => rfl
        | true => have := H.fresh i hip h; rw [hun] at this; cases this
      have next : ∀ w', Mem w [] w' → wpAny P .any l.toArray Q m (listed.setIfInBounds i true) (a.put op.dst v) w' := fun w' hw' => by
        refine any_of_core hB hnd hlt hin m pre suf af L Lq _ _ w' hleft ⟨H.ord, H.inv.set hi hin', by simpa using H.mem.call hw', H.sees, H.lin, by rw [put_size]; exact H.size, H.sizef, by rw [put_def]; exact H.defers, H.defersf, fun j hj hl => ?_, fun j hj hf => ?_, fun j hj hl => ?_, fun j d hj hl hd => ?_, fun d hd => ?_, H.full⟩
        · by_cases hji : j = i
          · subst hji; exact hip
          · exact H.sub j hj (by rw [← getne j hji]; exact hl)
        · rw [getne j (fun e => by subst e; rw [hfi] at hf; cases hf)]; exact H.fresh j hj hf
        · exact H.pend j hj (by rw [← getne j (fun e => by subst e; rw [geti] at hl; cases hl)]; exact hl)
        · by_cases hji : j = i
          · subst hji
            rw [hdi] at hd
            have h2 := hv1 d hd
            rw [hd]
            have h3 : slotIs a0.tmps.size d v (a.put (some d) v) := slotIs_put H.size
            unfold slotIs at h2 h3
            rw [h2, h3]
          · rw [getne j hji] at hl
            rw [put_get _ _ _ _ (hone j d hj hd hji)]
            exact H.done j d hj hl hd
        · have h1 : op.dst ≠ some d := by
            have := hd i hin' geti
            rwa [hdi] at this
          rw [put_get _ _ _ _ h1]
          refine H.rest d fun j hj hl => ?_
          by_cases hji : j = i
          · subst hji; rw [hdi]; exact h1
          · exact hd j hj (by rw [getne j hji]; exact hl)
      unfold wpOp
      simp only [ho']
      rw [ew]
      split
      · rename_i hwt
        have h1 := hv2 hwt w (H.sees w H.mem)
        refine .inl ?_
        unfold Oper.wp
        rw [ee]
        unfold Oper.quietAt at h1
        generalize (execOp af.eval op).run P w = r at h1
        unfold Oper.quietUpon at h1
        split at h1
        · obtain ⟨rfl, rfl⟩ := h1; exact next _ (Mem.init _)
        · obtain ⟨rfl, e⟩ := h1; rw [e] at next; exact next _ (Mem.init _)
        · obtain ⟨rfl, hcal⟩ := h1
          exact hcal.mono fun e w'' ⟨he, hm⟩ => by subst he; exact next _ hm
        · exact h1.elim
      · rename_i hwt
        have := hv3 (by simpa using hwt)
        rw [this] at next
        exact next w (Mem.init _)
    · -- what is to be made next
      have his : i ∈ suf := by
        have := hin i hin'
        rw [H.ord] at this
        exact (List.mem_append.1 this).resolve_left hip
      rcases hsuf with rfl | ⟨f, r, rfl, hff⟩
      · cases his
      have hif : i = f := by
        rcases List.mem_cons.1 his with h | h
        · exact h
        · exfalso
          obtain ⟨r1, r2, rfl⟩ := List.append_of_mem h
          have hx' : ord = (pre ++ f :: r1) ++ i :: r2 := by rw [H.ord]; simp
          obtain ⟨oi, hoi, hoki⟩ := linGo_spec ord [] [] hB _ i r2 hx'
          have e1 : oi = o' := by rw [ho] at hoi; exact (Option.some.inj hoi).symm
          subst e1
          have hfa := hoki.anc f (by
            rw [List.append_nil, List.mem_reverse, List.mem_filter]
            exact ⟨by simp, hff⟩)
          have hfl := cert_listed hB hin H.inv i oi ho hdep f hfa
          have hf' : f ∈ ord := by rw [H.ord]; simp
          have hfp := H.sub f (hlt f hf') (getD_tf (by have := hlt f hf'; omega) hfl)
          have hnd' := hnd
          rw [H.ord] at hnd'
          exact (List.nodup_append.1 hnd').2.2 f hfp f (by simp) rfl
      subst hif
      obtain ⟨of, hof, hl⟩ := H.lin
      have : of = o' := by rw [ho] at hof; exact (Option.some.inj hof).symm
      subst this
      rw [if_pos hff] at hl
      obtain ⟨hg, hrun⟩ := hl
      have h1 := hrun w H.mem
      have next : ∀ v w', (∃ L' Lq', Mem w0 L' w' ∧ (∀ w, Mem w0 L' w → Mem w0 Lq' w) ∧ (∀ w, Mem w0 Lq' w → Mem w0 Lq w) ∧ Lin P l fs Q w0 r (af.put of.dst v) L' Lq') → wpAny P .any l.toArray Q m (listed.setIfInBounds i true) (a.put of.dst v) w' := fun v w' ⟨L', Lq', g1, g2, g3, g4⟩ => by
        refine any_of_core hB hnd hlt hin m (pre ++ [i]) r (af.put of.dst v) L' Lq' _ _ w' hleft ⟨by rw [H.ord]; simp, H.inv.set hi hin', g1, g2, g4, by rw [put_size]; exact H.size, by rw [put_size]; exact H.sizef, by rw [put_def]; exact H.defers, by rw [put_def]; exact H.defersf, fun j hj hl => ?_, fun j hj hf => ?_, fun j hj hl => ?_, fun j d hj hl hd => ?_, fun d hd => ?_, fun d hd => ?_⟩
        · by_cases hji : j = i
          · subst hji; simp
          · exact List.mem_append_left _ (H.sub j hj (by rw [← getne j hji]; exact hl))
        · rcases List.mem_append.1 hj with h | h
          · by_cases hji : j = i
            · subst hji; exact geti
            · rw [getne j hji]; exact H.fresh j h hf
          · obtain rfl := List.mem_singleton.1 h; exact geti
        · rcases List.mem_append.1 hj with h | h
          · have hji : j ≠ i := fun e => hip (e ▸ h)
            exact pend_put hB hnd hlt H.ord ho h g3 (H.pend j h (by rw [← getne j hji]; exact hl))
          · obtain rfl := List.mem_singleton.1 h
            rw [geti] at hl; cases hl
        · by_cases hji : j = i
          · subst hji
            rw [hdi] at hd
            rw [hd]
            have h3 : slotIs a0.tmps.size d v (a.put (some d) v) := slotIs_put H.size
            have h4 : slotIs a0.tmps.size d v (af.put (some d) v) := slotIs_put H.sizef
            unfold slotIs at h3 h4
            rw [h3, h4]
          · rw [getne j hji] at hl
            rw [put_get _ _ _ _ (hone j d hj hd hji), put_get _ _ _ _ (hone j d hj hd hji)]
            exact H.done j d hj hl hd
        · have h1 : of.dst ≠ some d := by
            have := hd i hin' geti
            rwa [hdi] at this
          rw [put_get _ _ _ _ h1]
          refine H.rest d fun j hj hl => ?_
          by_cases hji : j = i
          · subst hji; rw [hdi]; exact h1
          · exact hd j hj (by rw [getne j hji]; exact hl)
        · have h1 : of.dst ≠ some d := by
            have := hd i (by simp)
            rwa [hdi] at this
          rw [put_get _ _ _ _ h1]
          exact H.full d fun j hj => hd j (List.mem_append_left _ hj)
      unfold wpOp
      simp only [ho']
      rw [if_pos (by simp [Region.wanted, hg])]
      refine .inl ?_
      unfold Oper.wp
      rw [ee]
      generalize (execOp af.eval of).run P w = r' at h1
      unfold upon at h1
      split at h1
      · exact next _ _ h1
      · exact next _ _ h1
      · obtain ⟨rfl, hcal⟩ := h1
        exact hcal.mono fun e w'' ⟨u, he, hR⟩ => by subst he; exact next u _ hR
      · exact h1.elim

theorem wp_region_lin {id : Nat} {ro : Option Nat} [Tame Q] {a : Act} {w : World} {L Lq : List Ent} (A : List (List Nat)) (ord : List Nat) (hnd : noDefer l = true) (hm : P.follows .mixedOrders = true) (hB : linB l fs A ord = true) (hC : Mem w0 L { w with drawn := w.drawn + 1 }) (hsub : ∀ w, Mem w0 L w → Mem w0 Lq w)
    (h : Lin P l fs Q w0 ord a L Lq) : (Code.region id l.toArray true).wpIn (fen ro) 0 P Q a w := by
  simp only [linB, Bool.and_eq_true, decide_eq_true_eq] at hB
  obtain ⟨⟨⟨h1, h2⟩, h3⟩, h4⟩ := hB
  have hin : ∀ j, j < l.length → j ∈ ord := fun j hj => by have := List.all_eq_true.1 h1 j (List.mem_range.2 hj); simpa using this
  have hlt : ∀ j ∈ ord, j < l.length := fun j hj => by have := List.all_eq_true.1 h3 j hj; simpa using this
  refine fen_region_any hnd hm ?_
  have inv0 : HeadInv .any l.toArray l.length (Array.replicate l.toArray.size false) :=
    ⟨by simp, fun j oj _ hl => (by rw [getD_replicate_false] at hl; cases hl), fun t h1 h2 => by simp at h2; omega⟩
  have hun : ∀ j, j < l.length → (Array.replicate l.toArray.size false).getD j true = false := fun j hj => by simp [hj]
  have hleft : left l.length (Array.replicate l.toArray.size false) = l.length := by
    unfold left
    rw [List.filter_eq_self.2 (fun j hj => ?_), List.length_range]
    rw [hun j (List.mem_range.1 hj)]; rfl
  have := any_of_core (P := P) (Q := Q) (w0 := w0) (a0 := a) h4 h2 hlt hin l.length [] ord a L Lq (Array.replicate l.toArray.size false) a _ hleft
    ⟨rfl, inv0, hC, hsub, h, rfl, rfl, rfl, rfl, fun j hj hl => (by rw [hun j hj] at hl; cases hl), fun j hj => (by cases hj), fun j hj => (by cases hj), fun j d hj hl => (by rw [hun j hj] at hl; cases hl), fun _ _ => rfl, fun _ _ => rfl⟩
  simpa using this
end
end Go.Eng

/- Steps that make or write memory, and the line of a region that draws its order. -/
set_option linter.unusedSimpArgs false
set_option linter.unusedVariables false
namespace Go.Eng
open Go.RowKit
section
variable {P : Program} {N : Fra} {w0 : World} {env : Env} {L R R1 R2 : List Ent} {Q : Exit → Act → World → Prop} {d : Option Tmp} {ty : TypeId} {ps : String} {af : Array Edge} {gd : Option (Nat × Bool)} {K : Value → List Ent → Prop}
/-- A step: what it yields and leaves, told to K. -/
def Stp (P : Program) (N : Fra) (w0 : World) (env : Env) (L : List Ent) (o : Oper) (K : Value → List Ent → Prop) : Prop :=
  ∀ a w, Rep N env a → Mem w0 L w → upon P w (fun v w' => ∃ L', Mem w0 L' w' ∧ K v L') ((execOp a.eval o).run P w)
theorem st_run {o : Oper} (h : ∀ a w, Rep N env a → Mem w0 L w → ∃ v w' L', (execOp a.eval o).run P w = .ok (.value v) w' ∧ Mem w0 L' w' ∧ K v L') : Stp P N w0 env L o K := fun a w ha hw => by
  obtain ⟨v, w', L', h1, h2, h3⟩ := h a w ha hw
  rw [h1]; exact ⟨L', h2, h3⟩
theorem st_skip {o : Oper} (h : ∀ a w, Rep N env a → Mem w0 L w → ∃ w' L', (execOp a.eval o).run P w = .ok .skip w' ∧ Mem w0 L' w' ∧ K undef L') : Stp P N w0 env L o K := fun a w ha hw => by
  obtain ⟨w', L', h1, h2, h3⟩ := h a w ha hw
  rw [h1]; exact ⟨L', h2, h3⟩
theorem upon_mono {w : World} {R R' : Value → World → Prop} (h : ∀ v w, R v w → R' v w) {r : Result Next} (hr : upon P w R r) : upon P w R' r := by
  unfold upon at hr ⊢
  split at hr
  · exact h _ _ hr
  · exact h _ _ hr
  · exact ⟨hr.1, hr.2.mono fun e w'' ⟨v, he, hv⟩ => ⟨v, he, h _ _ hv⟩⟩
  · exact hr.elim
theorem st_mono {o : Oper} {K' : Value → List Ent → Prop} (h : Stp P N w0 env L o K') (hk : ∀ v L', K' v L' → ∃ L'', (∀ w, Mem w0 L' w → Mem w0 L'' w) ∧ K v L'') : Stp P N w0 env L o K := fun a w ha hw =>
  upon_mono (fun v _ ⟨L', h1, h2⟩ => by obtain ⟨L'', h3, h4⟩ := hk v L' h2; exact ⟨L'', h3 _ h1, h4⟩) (h a w ha hw)
theorem st_mem {o : Oper} (L' : List Ent) (h : ∀ w, Mem w0 L w → Mem w0 L' w) (hk : Stp P N w0 env L' o K) : Stp P N w0 env L o K := fun a w ha hw => hk a w ha (h w hw)
/-- What only reads is a step, too. -/
theorem st_r {o : Oper} {v : Value} (h : Ry P N w0 env L o v) (hk : K v L) : Stp P N w0 env L o K := st_run fun a w ha hw => ⟨v, w, L, h a w ha hw, hw, hk⟩
theorem st_callC {X : Type} {val : X → Value} {L' : X → List Ent} {pr : X → Prop} {pre : Prop} {f : FuncId} {xs : List Operand} {ts : Array TypeId} {vs : List Value} [hf : IsFn P f] (hx : evl env xs = some vs)
    [hc : FnC P f w0 L vs X val L' pr pre] (hp : pre) (hk : ∀ x, pr x → K (val x) (L' x)) :
    Stp P N w0 env L ⟨d, .call { callee := .value (.func f), args := xs.toArray, argTypes := ts }, ty, ps, af, gd⟩ K := fun a w ha hw => by
  rw [run_call hf w rfl, ha.evl hx]
  exact ⟨rfl, (hc.h hp w hw).mono fun e w' ⟨x, he, hpx, hm⟩ => ⟨val x, he, L' x, hm, hk x hpx⟩⟩
section
variable {α : Type} {enc : α → Array Value} {c : Nat} {s : Sv} {xs ys : List α}
theorem st_box {t : TypeId} {x : Operand} {v : Value} (hx : ev env x = some v) (hk : ∀ b, K ((.pointer (some ⟨b, 0, none⟩))) ((blk b v.cells t :: L))) :
    Stp P N w0 env L ⟨d, .box t x, ty, ps, af, none⟩ K :=
  st_run fun a w ha hw => ⟨_, _, _, by simp only [execOp, ha.ev hx, Instr.box, newVar, newRow, Sem.run_bind, newObj, Sem.run, Result.andThen, Sem.run_pure]; rfl, hw.alloc v.cells t, hk _⟩
theorem st_alloc {t : TypeId} {z : Value} [hz : ZeroT P t z] (hk : ∀ b, K ((.pointer (some ⟨b, 0, none⟩))) ((blk b z.cells t :: L))) :
    Stp P N w0 env L ⟨d, .alloc t, ty, ps, af, none⟩ K :=
  st_run fun a w ha hw => ⟨_, _, _, by simp only [execOp, Instr.alloc, newVar, newRow, Sem.run_bind, run_zeroValue' w hz, newObj, Sem.run, Result.andThen, Sem.run_pure]; rfl, hw.alloc z.cells t, hk _⟩
theorem st_boxA {t : TypeId} {x : Operand} {cs : Array Value} (hx : ev env x = some (.agg cs)) (hk : ∀ b, K ((.pointer (some ⟨b, 0, none⟩))) ((blk b cs t :: L))) :
    Stp P N w0 env L ⟨d, .box t x, ty, ps, af, none⟩ K := st_box hx hk
theorem st_allocA {t : TypeId} {cs : Array Value} [hz : ZeroT P t (.agg cs)] (hk : ∀ b, K ((.pointer (some ⟨b, 0, none⟩))) ((blk b cs t :: L))) :
    Stp P N w0 env L ⟨d, .alloc t, ty, ps, af, none⟩ K := st_alloc (z := .agg cs) hk
theorem st_store {t : TypeId} {x y : Operand} {i b o : Nat} {cs : Array Value} {T : TypeId} {v : Value} (hx : ev env x = some (.pointer (some ⟨b, o, none⟩))) (hy : ev env y = some v) [ht : OneT P t] [hh : Has L b cs T i] (ho : o < cs.size) (hv : v.oneCell' = true) {cs' : Array Value} {L' : List Ent} (hcs : cs.setIfInBounds o v = cs') [hu : Upd L i (blk b cs' T) L'] (hk : K undef (L')) :
    Stp P N w0 env L ⟨none, .store t x y, ty, ps, af, none⟩ K :=
  st_skip fun a w ha hw => by
    have hi := hh.h
    have hb := hw.block hi
    have hc : w.cell? ⟨b, o, none⟩ = some cs[o] := by rw [hw.cell hi]; simp [ho]
    have hf : w.frozen? ⟨b, o, none⟩ = false := frozen_of_row w b o cs T hb
    subst hcs
    refine ⟨w.setCell ⟨b, o, none⟩ v, _, ?_, ?_, hk⟩
    · have h1 : (storeCells ⟨b, o, none⟩ [v]).run P w = .ok () (w.setCell ⟨b, o, none⟩ v) := by
        have := run_storeCells_at (P := P) b o T [v] 0 cs w hb (by simp; omega) (by simpa using hv)
        rw [this, setCell_eq_setRow w b o cs T (0, 0) v hb]
        congr 2
        apply Array.ext'
        simp [List.set_eq_take_append_cons_drop, ho]
      have hcs : v.cells = #[v] := by cases v <;> simp_all [Value.oneCell', Value.cells]
      simp only [execOp, ha.ev hx, ha.ev hy, Instr.storeAt, Instr.sureAddr, storeVar, Sem.run_bind, Sem.run_pure, Result.andThen, run_sizeOf' w ht.size, hcs]
      simp [h1]
    · rw [setCell_eq_setRow w b o cs T (0, 0) v hb]
      rw [← hu.h]
      exact hw.setRow hi _
theorem st_storeN {t : TypeId} {x y : Operand} {i b o n : Nat} {cs vs : Array Value} {T : TypeId} (hx : ev env x = some (.pointer (some ⟨b, o, none⟩))) (hy : ev env y = some (.agg vs)) [ht : RowT P t n] [hh : Has L b cs T i] [hs : SizeIs vs n] (ho : o + n ≤ cs.size) {cs' : Array Value} {L' : List Ent} (hcs : over cs o vs = cs') [hu : Upd L i (blk b cs' T) L'] (hk : K undef (L')) :
    Stp P N w0 env L ⟨none, .store t x y, ty, ps, af, none⟩ K :=
  st_skip fun a w ha hw => by
    have hi := hh.h
    have hn := hs.h
    have hv := hs.one
    have hb := hw.block hi
    subst hcs
    refine ⟨_, _, ?_, by rw [← hu.h]; exact hw.setRow hi _, hk⟩
    have h1 := run_storeCells_at (P := P) b o T vs.toList 0 cs w hb (by simp; omega) (fun v hv' => (Array.all_eq_true_iff_forall_mem.1 hv) v (by simpa using hv'))
    simp only [execOp, ha.ev hx, ha.ev hy, Instr.storeAt, Instr.sureAddr, storeVar, Value.cells, Sem.run_bind, Sem.run_pure, Result.andThen, run_sizeOf' w ht.size, hn]
    simp [h1, over]
theorem st_storeW {t : TypeId} {x y : Operand} {i b n : Nat} {cs vs : Array Value} {T : TypeId} (hx : ev env x = some (.pointer (some ⟨b, 0, none⟩))) (hy : ev env y = some (.agg vs)) [ht : RowT P t n] [hh : Has L b cs T i] [hs : SizeIs vs n] [hc : SizeIs cs n] {L' : List Ent} [hu : Upd L i (blk b vs T) L'] (hk : K undef (L')) :
    Stp P N w0 env L ⟨none, .store t x y, ty, ps, af, none⟩ K := by
  have hn := hs.h
  have hc' := hc.h
  refine st_storeN hx hy (by omega) (?_ : over cs 0 vs = vs) hk
  apply Array.ext'
  simp [over]; omega
theorem st_copy {x y : Operand} {tx tys e : TypeId} {i b o dl dc sl sc : Nat} {a : Addr} {cs vs : Array Value} {T : TypeId} (hx : ev env x = some (.slice (some ⟨b, o, none⟩) dl dc)) (hy : ev env y = some (.slice (some a) sl sc))
    [ht : SliceT P tx e 1] [hh : Has L b cs T i] (hn : vs.size = Nat.min sl dl) (hsrc : ∀ w, Mem w0 L w → ∀ j, j < vs.size → w.cell? (a.add j) = vs[j]?) (hv : vs.all (·.oneCell') = true) (ho : o + vs.size ≤ cs.size)
    {cs' : Array Value} {L' : List Ent} (hcs : over cs o vs = cs') [hu : Upd L i (blk b cs' T) L'] (hk : K ((.int .i64 vs.size)) (L')) :
    Stp P N w0 env L ⟨d, .call { callee := .builtin .copy, args := #[x, y], argTypes := #[tx, tys] }, ty, ps, af, none⟩ K :=
  st_run fun aa w ha hw => by
    have hi := hh.h
    have hb := hw.block hi
    subst hcs
    have hrun := run_copy_row (P := P) w tx tys ty e b o dl dc a sl sc cs T vs.toList ht.und ht.size hb (by simpa using hn)
      (fun j v hv' => by
        have hj : j < vs.size := by simpa using (List.getElem?_eq_some_iff.1 hv').1
        rw [hsrc w hw j hj]; simpa using hv') (by simpa using ho) (fun v hv' => (Array.all_eq_true_iff_forall_mem.1 hv) v (by simpa using hv'))
    refine ⟨_, w.setRow b (over cs o vs), _, ?_, by rw [← hu.h]; exact hw.setRow hi _, hk⟩
    simp [execOp, ha.ev hx, ha.ev hy, resolve, invoke, builtin, hrun, Result.andThen, goInt, over]
theorem st_append {t tx e : TypeId} {x y : Operand} {yv : Value} {by' i : Nat} [ht : SlT P t e c by'] [he : Enc enc c] (hx : ev env x = some s.val) (hy : ev env y = some yv) [q : Owns L s enc c xs i] (hc : 0 < c)
    (hs : ∀ w, Mem w0 L w → Src P c tx yv ys.length (flatR enc ys) w) (hb : (xs.length + ys.length) * by' ≤ 140737488355328) (h63 : xs.length + ys.length ≤ 140737488355328) {L' : Sv → List Ent} [hu : ∀ s', Upd L i (own enc c s' (xs ++ ys)) (L' s')]
    (hk : ∀ s' : Sv, s'.Ok → s'.len = (xs ++ ys).length → K (s'.val) ((L' s'))) :
    Stp P N w0 env L ⟨d, .call { callee := .builtin .append, args := #[x, y], argTypes := #[t, tx] }, ty, ps, af, none⟩ K :=
  st_run fun a w ha hw => by
    obtain ⟨s', w', h1, h2, h3, h4⟩ := append_own (ty := ty) ht hc hw q.h (hs w hw) hb h63
    refine ⟨s'.val, w', L' s', ?_, by rw [← (hu s').h]; exact h4, hk s' h2 h3⟩
    simp [execOp, ha.ev hx, ha.ev hy, resolve, invoke, builtin, h1, Result.andThen]
theorem st_buildSlice {t e : TypeId} {by' n : Nat} [ht : SlT P t e c by'] [he : Enc enc c] {ops : List (Nat × Operand)} {vals : List Value} (xs : List α) (hx : evp env ops = some (idx vals 0)) (hv : vals.map Value.cells = xs.map enc) (hn : xs.length = n) (hc : 0 < n * c) (h24 : n * c ≤ 16777216)
    (hk : ∀ b, K ((Sv.val ⟨false, b, 0, n, n, none⟩)) ((own enc c ⟨false, b, 0, n, n, none⟩ xs :: L))) :
    Stp P N w0 env L ⟨d, .buildSlice t n ops.toArray, ty, ps, af, none⟩ K :=
  st_run fun a w ha hw => by
    subst hn
    have e1 : (ops.toArray.map fun (p : Nat × Operand) => match p with | (i, x) => (i, a.eval x)) = (idx vals 0).toArray := by
      rw [← ha.evp hx]; simp
    refine ⟨_, _, _, ?_, hw.call (mem_new (enc := enc) (c := c) (xs := xs) (cs := (flatR enc xs).toArray) (e := e) rfl xs.length xs.length rfl (Nat.le_refl _) (len24 hc h24) (by simp [flatR_length]) fun i x hx j hj => by rw [← flatR_get (enc := enc) xs i x hx j hj]; simp), hk _⟩
    simp only [execOp, e1, Sem.run_bind, run_buildSlice ht hv hc h24 w, Result.andThen, Sem.run_pure]; rfl
theorem st_makeS {t e : TypeId} {by' n cap : Nat} {z : Value} {x y : Operand} {k k' : IntKind} {ix iy : Int} [ht : SlT P t e c by'] [hz : ZeroT P e z] (x0 : α) (h0 : enc x0 = z.cells) (hx : ev env x = some (.int k ix)) (hy : ev env y = some (.int k' iy)) (ex : ix = (n : Int)) (ey : iy = (cap : Int)) (hle : n ≤ cap) (hb : by' * cap ≤ 281474976710656) (h63 : cap ≤ 140737488355328)
    (hk : ∀ b, K ((Sv.val ⟨false, b, 0, n, cap, none⟩)) ((own enc c ⟨false, b, 0, n, cap, none⟩ (List.replicate n x0) :: L))) :
    Stp P N w0 env L ⟨d, .makeSlice t x y, ty, ps, af, none⟩ K :=
  st_run fun a w ha hw => by
    subst ex ey
    obtain ⟨w', h1, h2⟩ := run_makeS ht hz (k := k) (k' := k') (n := n) x0 h0 hle hb h63 w
    exact ⟨_, w', _, by simp only [execOp, ha.ev hx, ha.ev hy, Sem.run_bind, h1, Result.andThen, Sem.run_pure], hw.call h2, hk _⟩
theorem st_storeS {t : TypeId} {x y : Operand} {i k j n p : Nat} {a a' : α} {v : Value} (sz : (P.info? t).map (·.size) = some n) [he : Enc enc c] (hx : ev env x = some (.pointer (some ⟨s.b, p, none⟩))) (hy : ev env y = some v) [q : Owns L s enc c xs i] (hp' : p = s.o + k * c + j)
    (ha : xs[k]? = some a) (hv : v.cells.all (·.oneCell') = true) (hn : v.cells.size = n) (hj : j + n ≤ c) (he' : over (enc a) j v.cells = enc a') {L' : List Ent} [hu : Upd L i (own enc c s (xs.set k a')) L'] (hk : K undef (L')) :
    Stp P N w0 env L ⟨none, .store t x y, ty, ps, af, none⟩ K :=
  st_skip fun aa w haa hw => by
    subst hp' hn
    obtain ⟨w', h1, h2⟩ := mem_store (P := P) hw q ha hv hj he' hu
    refine ⟨w', _, ?_, h2, hk⟩
    simp only [execOp, haa.ev hx, haa.ev hy, Instr.storeAt, Instr.sureAddr, storeVar, Sem.run_bind, Sem.run_pure, Result.andThen, run_sizeOf' w sz]
    simp [h1]
theorem st_strb {s t e : TypeId} {x : Operand} {xs : List UInt8} (hs : P.underlying s = some .string) (hd : P.underlying t = some (.slice e)) (he : P.underlying e = some (.int .u8)) (hx : ev env x = some (.string ⟨xs.toArray⟩)) (hl : xs.length ≤ 140737488355328)
    (hk : ∀ sv, K ((Sv.val sv)) ((own benc 1 sv xs :: L))) :
    Stp P N w0 env L ⟨d, .convert s t x, ty, ps, af, none⟩ K :=
  st_run fun a w ha hw => by
    obtain ⟨sv, w', h1, h2⟩ := run_strb hs hd he xs hl w
    exact ⟨_, w', _, by simp only [execOp, ha.ev hx, Sem.run_bind, h1, Result.andThen, Sem.run_pure], hw.call h2, hk sv⟩
theorem st_build0 {t e : TypeId} {by' : Nat} (enc : α → Array Value) [ht : SlT P t e c by'] [he : Enc enc c] (hk : ∀ b, K ((Sv.val ⟨false, b, 0, 0, 0, none⟩)) ((own enc c ⟨false, b, 0, 0, 0, none⟩ [] :: L))) :
    Stp P N w0 env L ⟨d, .buildSlice t 0 #[], ty, ps, af, none⟩ K :=
  st_run fun a w _ hw => by
    refine ⟨_, _, _, ?_, hw.call (mem_new (enc := enc) (c := c) (xs := []) (cs := #[]) (e := e) rfl 0 0 rfl (Nat.le_refl _) (Nat.zero_le _) (by simp) (by simp)), hk _⟩
    simp only [execOp, Sem.run_bind, List.map_toArray, List.map_nil, run_build0 ht w, Result.andThen, Sem.run_pure]; rfl
theorem st_appendG {α : Type} {enc : α → Array Value} {c : Nat} {s : Sv} {xs ys : List α} {t tx e : TypeId} {x y : Operand} {yv : Value} {by' : Nat} [ht : SlT P t e c by'] [he : Enc enc c] (R : List Ent) (hx : ev env x = some s.val) (hy : ev env y = some yv)
    (ho : ∀ w, Mem w0 L w → Mem w0 (own enc c s xs :: R) w) (hc : 0 < c) (hs : ∀ w, Mem w0 L w → Src P c tx yv ys.length (flatR enc ys) w) (hb : (xs.length + ys.length) * by' ≤ 140737488355328) (h63 : xs.length + ys.length ≤ 140737488355328)
    (hk : ∀ s' : Sv, K (s'.val) ((own enc c s' (xs ++ ys) :: R))) :
    Stp P N w0 env L ⟨d, .call { callee := .builtin .append, args := #[x, y], argTypes := #[t, tx] }, ty, ps, af, none⟩ K :=
  st_run fun a w ha hw => by
    obtain ⟨s', w', h1, h2, h3, h4⟩ := append_own (i := 0) (ty := ty) ht hc (ho w hw) rfl (hs w hw) hb h63
    refine ⟨s'.val, w', _, ?_, by simpa using h4, hk s'⟩
    simp [execOp, ha.ev hx, ha.ev hy, resolve, invoke, builtin, h1, Result.andThen]
theorem st_storeSv {P : Program} {N : Fra} {w0 : World} {env : Env} {L : List Ent} {ty : TypeId} {ps : String} {af : Array Edge} {τ : Type} {t : TypeId} {x y : Operand} {i k p : Nat} {s : Sv} {xs : List (Sl τ)} {a : Sl τ} (a' : Sl τ)
    (sz : (P.info? t).map (·.size) = some 1) (hx : ev env x = some (.pointer (some ⟨s.b, p, none⟩))) (hy : ev env y = some a'.sv.val) [q : Owns L s (scells (τ := τ)) 1 xs i] (hp' : p = s.o + k * 1) (ha : xs[k]? = some a) {L' : List Ent} [hu : Upd L i (own scells 1 s (xs.set k a')) L'] (hk : K undef (L')) :
    Stp P N w0 env L ⟨none, .store t x y, ty, ps, af, none⟩ K :=
  st_storeS (j := 0) (a' := a') sz hx hy (q := q) hp' ha (by rw [Sv.cells_val]; simp [Sv.one]) (by rw [Sv.cells_val]; rfl) (by decide) (by rw [Sv.cells_val]; rfl) hk
theorem st_copyS {α : Type} {enc : α → Array Value} {x y : Operand} {tx tys e : TypeId} {i b o dl dc : Nat} {sv : Sv} {ys : List α} {cs : Array Value} {T : TypeId} (hx : ev env x = some (.slice (some ⟨b, o, none⟩) dl dc)) (hy : ev env y = some sv.val)
    [ht : SliceT P tx e 1] [hh : Has L b cs T i] [q : Hd w0 L sv enc 1 ys] [he : Enc enc 1] (h0 : 0 < ys.length) (hl : ys.length ≤ dl) (ho : o + ys.length ≤ cs.size)
    {cs' : Array Value} {L' : List Ent} (hcs : over cs o (flatR enc ys).toArray = cs') [hu : Upd L i (blk b cs' T) L'] (hk : K ((.int .i64 (ys.length : Nat))) (L')) :
    Stp P N w0 env L ⟨d, .call { callee := .builtin .copy, args := #[x, y], argTypes := #[tx, tys] }, ty, ps, af, none⟩ K := fun a w ha hw => by
  have r := q.h w hw
  have hn := r.some (i := 0) h0
  have hlen := r.len
  rw [Sv.val_some hn, r.ok.sp (by have := r.ok.le; omega)] at hy
  have hs : (flatR enc ys).toArray.size = ys.length := by rw [List.size_toArray, flatR_length, Nat.mul_one]
  have hk' := hk
  rw [← hs] at hk'
  refine st_copy (vs := (flatR enc ys).toArray) hx hy ?_ (fun w hw j hj => ?_) ?_ (by rw [hs]; exact ho) hcs hk' a w ha hw
  · rw [hs]; simp only [Nat.min_def]; split <;> omega
  · rw [hs] at hj
    have := flatR_get (enc := enc) ys j ys[j] (by simp [hj]) 0 (by decide)
    have r2 := (q.h w hw).row j ys[j] (by simp [hj]) 0 (by decide)
    simp only [Nat.mul_one, Nat.add_zero] at this r2
    rw [Addr.add_none, cell_hp, r2, ← this]; simp
  · rw [Array.all_eq_true_iff_forall_mem]; intro v hv; exact flatR_one (enc := enc) ys v (by simpa using hv)
end

/-- The nil slice is held alone. -/
theorem st_own0 {o : Oper} {α : Type} (enc : α → Array Value) (c : Nat) (h : Stp P N w0 env (own enc c Sv.none [] :: L) o K) : Stp P N w0 env L o K := fun a w ha hw => h a w ha (hw.nilOwn enc c)
section
variable {τ : Type} [dp : Deep τ] {enc : τ → Array Value} {c : Nat}
theorem st_ownD0 {o : Oper} (τ : Type) [Deep τ] {enc : τ → Array Value} {c : Nat} [f : FlatT τ enc c] (h : Stp P N w0 env (Deep.ent (⟨Sv.none, []⟩ : Sl τ) :: L) o K) : Stp P N w0 env L o K := fun a w ha hw => h a w ha (Mem.nilEnt (enc := enc) (c := c) hw)
theorem st_appendD {s : Sv} {t tx e e' : TypeId} {x y : Operand} {by' m : Nat} [f : FlatT τ enc c] [ht : SlT P t e c by'] [ht' : SliceT P tx e' m] [he : Enc enc c] (a : Sl τ) (ys : List τ) (hx : ev env x = some a.sv.val) (hy : ev env y = some s.val) [q : Hd w0 L s enc c ys]
    [k1 : Take L a R1] [k2 : TakeL R1 ys R2] (hc : 0 < c) (hb : (a.xs.length + ys.length) * by' ≤ 140737488355328) (h63 : a.xs.length + ys.length ≤ 140737488355328)
    (hk : ∀ a' : Sl τ, a'.xs = a.xs ++ ys → K a'.sv.val (Deep.ent a' :: R2)) :
    Stp P N w0 env L ⟨d, .call { callee := .builtin .append, args := #[x, y], argTypes := #[t, tx] }, ty, ps, af, none⟩ K :=
  st_mono (st_appendG (K := fun v L' => ∃ s', v = Sv.val s' ∧ L' = own enc c s' (a.xs ++ ys) :: (a.xs.map dp.ent ++ (ys.map dp.ent ++ R2))) (enc := enc) (c := c) (xs := a.xs) (ys := ys) (a.xs.map dp.ent ++ (ys.map dp.ent ++ R2)) hx hy (fun w hw => ((k1.h.trans (k2.h.cons _)).trans Tr.open_d).mem hw) hc (fun w hw => src_rows ht'.und hc (q.h w hw)) hb h63
    (fun s' => ⟨s', rfl, rfl⟩)) fun v L' ⟨s', hv, hL⟩ => ⟨Deep.ent (⟨s', a.xs ++ ys⟩ : Sl τ) :: R2, fun w hw => by
      have t1 : Tr (own enc c s' (a.xs ++ ys) :: (a.xs.map dp.ent ++ (ys.map dp.ent ++ R2))) (Deep.ent (⟨s', a.xs ++ ys⟩ : Sl τ) :: R2) := by
        have := Tr.shut_d (enc := enc) (c := c) (a := (⟨s', a.xs ++ ys⟩ : Sl τ)) (L := R2)
        simpa using this
      rw [hL] at hw
      exact t1.mem hw, by rw [hv]; exact hk ⟨s', a.xs ++ ys⟩ rfl⟩
end
theorem sq_st {l : List Oper} {rest : List Oper} {o : Oper} (hg : o.guard = none) (hd : dstOk N o.dst = true) (h : Stp P N w0 env L o (fun v L' => Sq P N w0 l Q rest (putE env o.dst v) L')) : Sq P N w0 l Q (o :: rest) env L := fun a w ha hw => by
  unfold wpList
  rw [if_pos (wanted_none hg)]
  refine .inl ?_
  have h1 := h a w ha hw
  unfold Oper.wp
  generalize (execOp a.eval o).run P w = r at h1
  unfold upon at h1
  split at h1
  · obtain ⟨L', h2, h3⟩ := h1; exact h3 _ _ (ha.put hd _) h2
  · obtain ⟨L', h2, h3⟩ := h1; exact h3 _ _ (ha.put hd _) h2
  · obtain ⟨rfl, hc⟩ := h1
    exact hc.mono fun e w'' ⟨v, he, L', h2, h3⟩ => by subst he; exact h3 _ _ (ha.put hd _) h2
  · exact h1.elim
end

/-! The line of a region. -/
section
variable {P : Program} {N : Fra} {w0 : World} {env : Env} {L Lq : List Ent} {l : List Oper} {fs ord : List Nat} {Q : Exit → Act → World → Prop} {k : Nat} {o : Oper}
def Ln (P : Program) (N : Fra) (w0 : World) (l : List Oper) (fs : List Nat) (Q : Exit → Act → World → Prop) (ord : List Nat) (env : Env) (L Lq : List Ent) : Prop := ∀ a, Rep N env a → Lin P l fs Q w0 ord a L Lq
theorem ln_nil (h : Ex N w0 Q .normal env L) : Ln P N w0 l fs Q [] env L Lq := fun a ha w hw => h a w ha hw
theorem ln_quiet {v : Value} (ho : l[k]? = some o) (hf : fs.contains k = false) (hd : dstOk N o.dst = true) (h1 : ∀ a, Rep N env a → Region.wanted o (yielded l.toArray a.tmps) = true → quietR P o a (Mem w0 Lq) v) (h2 : ∀ a, Rep N env a → Region.wanted o (yielded l.toArray a.tmps) = false → v = undef)
    (hk : Ln P N w0 l fs Q ord (putE env o.dst v) L Lq) : Ln P N w0 l fs Q (k :: ord) env L Lq := fun a ha =>
  ⟨o, ho, by rw [if_neg (by rw [hf]; exact Bool.false_ne_true)]; exact ⟨v, h1 a ha, h2 a ha, hk _ (ha.put hd v)⟩⟩
theorem ln_y {v : Value} (ho : l[k]? = some o) (h : Yl P N w0 env Lq o v) (hk : Ln P N w0 l fs Q ord (putE env o.dst v) L Lq) (hg : o.guard = none := by rfl) (hd : dstOk N o.dst = true := by rfl) (hf : fs.contains k = false := by rfl) : Ln P N w0 l fs Q (k :: ord) env L Lq :=
  ln_quiet ho hf hd (fun a ha _ => h a ha) (fun a ha hw => by rw [wanted_none hg] at hw; cases hw) hk
theorem ln_r {v : Value} (ho : l[k]? = some o) (h : Ry P N w0 env Lq o v) (hk : Ln P N w0 l fs Q ord (putE env o.dst v) L Lq) (hg : o.guard = none := by rfl) (hd : dstOk N o.dst = true := by rfl) (hf : fs.contains k = false := by rfl) : Ln P N w0 l fs Q (k :: ord) env L Lq := ln_y ho h.yl hk hg hd hf
theorem ln_gt {v : Value} {j t : Nat} {g : Bool} (ho : l[k]? = some o) (hg : o.guard = some (j, true)) (hj : (l[j]?).bind (·.dst) = some t) (hv : look env t = some (.bool g)) (h : g = true → Yl P N w0 env Lq o v)
    (hk : Ln P N w0 l fs Q ord (putE env o.dst (if g = true then v else undef)) L Lq) (hd : dstOk N o.dst = true := by rfl) (hf : fs.contains k = false := by rfl) : Ln P N w0 l fs Q (k :: ord) env L Lq :=
  ln_quiet ho hf hd (fun a ha hw => by
    rw [wanted_some ha hg hj hv] at hw
    cases g
    · cases hw
    · exact h rfl a ha) (fun a ha hw => by
    rw [wanted_some ha hg hj hv] at hw
    cases g
    · rfl
    · cases hw) hk
theorem ln_gf {v : Value} {j t : Nat} {g : Bool} (ho : l[k]? = some o) (hg : o.guard = some (j, false)) (hj : (l[j]?).bind (·.dst) = some t) (hv : look env t = some (.bool g)) (h : (!g) = true → Yl P N w0 env Lq o v)
    (hk : Ln P N w0 l fs Q ord (putE env o.dst (if (!g) = true then v else undef)) L Lq) (hd : dstOk N o.dst = true := by rfl) (hf : fs.contains k = false := by rfl) : Ln P N w0 l fs Q (k :: ord) env L Lq :=
  ln_quiet ho hf hd (fun a ha hw => by
    rw [wanted_some ha hg hj hv] at hw
    cases g
    · exact h rfl a ha
    · cases hw) (fun a ha hw => by
    rw [wanted_some ha hg hj hv] at hw
    cases g
    · cases hw
    · rfl) hk
theorem ln_nt {v : Value} {j t : Nat} {c g : Bool} (ho : l[k]? = some o) (hg : o.guard = some (j, true)) (hj : (l[j]?).bind (·.dst) = some t) (hv : look env t = some (if c = true then .bool g else undef)) (h : (c && g) = true → Yl P N w0 env Lq o v)
    (hk : Ln P N w0 l fs Q ord (putE env o.dst (if (c && g) = true then v else undef)) L Lq) (hd : dstOk N o.dst = true := by rfl) (hf : fs.contains k = false := by rfl) : Ln P N w0 l fs Q (k :: ord) env L Lq :=
  ln_quiet ho hf hd (fun a ha hw => by
    rw [wanted_nest ha hg hj hv] at hw
    cases c <;> cases g <;> first | exact h rfl a ha | cases hw) (fun a ha hw => by
    rw [wanted_nest ha hg hj hv] at hw
    cases c <;> cases g <;> first | rfl | cases hw) hk
theorem ln_nf {v : Value} {j t : Nat} {c g : Bool} (ho : l[k]? = some o) (hg : o.guard = some (j, false)) (hj : (l[j]?).bind (·.dst) = some t) (hv : look env t = some (if c = true then .bool g else undef)) (h : (c && !g) = true → Yl P N w0 env Lq o v)
    (hk : Ln P N w0 l fs Q ord (putE env o.dst (if (c && !g) = true then v else undef)) L Lq) (hd : dstOk N o.dst = true := by rfl) (hf : fs.contains k = false := by rfl) : Ln P N w0 l fs Q (k :: ord) env L Lq :=
  ln_quiet ho hf hd (fun a ha hw => by
    rw [wanted_nest ha hg hj hv] at hw
    cases c <;> cases g <;> first | exact h rfl a ha | cases hw) (fun a ha hw => by
    rw [wanted_nest ha hg hj hv] at hw
    cases c <;> cases g <;> first | rfl | cases hw) hk
theorem ln_ty {v : Value} {j t : Nat} {b g : Bool} (ho : l[k]? = some o) (hg : o.guard = some (j, b)) (hj : (l[j]?).bind (·.dst) = some t) (hv : look env t = some (.bool g)) (ht : g = b) (h : Yl P N w0 env Lq o v)
    (hk : Ln P N w0 l fs Q ord (putE env o.dst v) L Lq) (hd : dstOk N o.dst = true := by rfl) (hf : fs.contains k = false := by rfl) : Ln P N w0 l fs Q (k :: ord) env L Lq :=
  ln_quiet ho hf hd (fun a ha _ => h a ha) (fun a ha hw => by
    rw [wanted_some ha hg hj hv, ht, beq_self_eq_true] at hw; cases hw) hk
/-- What makes or writes. -/
theorem ln_st' (ho : l[k]? = some o) (h : Stp P N w0 env L o fun v L' => ∃ Lq', (∀ w, Mem w0 L' w → Mem w0 Lq' w) ∧ (∀ w, Mem w0 Lq' w → Mem w0 Lq w) ∧ Ln P N w0 l fs Q ord (putE env o.dst v) L' Lq') (hg : o.guard = none := by rfl) (hd : dstOk N o.dst = true := by rfl) (hf : fs.contains k = true := by rfl) : Ln P N w0 l fs Q (k :: ord) env L Lq := fun a ha =>
  ⟨o, ho, by
    rw [if_pos hf]
    exact ⟨hg, fun w hw => upon_mono (fun v w' ⟨L', h1, Lq', h2, h3, h4⟩ => ⟨L', Lq', h1, h2, h3, h4 _ (ha.put hd v)⟩) (h a w ha hw)⟩⟩
theorem ln_st (ho : l[k]? = some o) (h : Stp P N w0 env L o fun v L' => (∀ w, Mem w0 L' w → Mem w0 Lq w) ∧ Ln P N w0 l fs Q ord (putE env o.dst v) L' Lq) (hg : o.guard = none := by rfl) (hd : dstOk N o.dst = true := by rfl) (hf : fs.contains k = true := by rfl) : Ln P N w0 l fs Q (k :: ord) env L Lq :=
  ln_st' ho (st_mono h fun v L' ⟨h1, h2⟩ => ⟨L', fun _ h => h, Lq, h1, fun _ h => h, h2⟩) hg hd hf
theorem cw_lin {id : Nat} [Tame Q] (fs : List Nat) (A : List (List Nat)) (ord : List Nat) (Lq : List Ent) (hsub : ∀ w, Mem w0 L w → Mem w0 Lq w) (hm : P.follows .mixedOrders = true) (hB : linB l fs A ord = true) (h : Ln P N w0 l fs Q ord env L Lq) (hnd : noDefer l = true := by kernel_rfl) : Cw P N w0 Q (.region id l.toArray true) env L := fun a _ ha hw =>
  wp_region_lin A ord hnd hm hB hw.drew' hsub (h a ha)
end
end Go.Eng

/- A range over a function: the iterator's contract, and the caller's law, over memory told by entries. -/
set_option linter.unusedSimpArgs false
set_option linter.unusedVariables false
namespace Go.Eng
open Go.RowKit

/-! The loop's record, and the block for its rounds' deferred calls. -/
def recE (D l : Nat) (r : Loop) : Ent := ⟨fun k => k = D ∨ k = l, fun h => h D = some (.deferred (some [])) ∧ h l = some (.loop r), fun h h' e s => by
  rw [e D (.inl rfl), e l (.inr rfl)]; exact s⟩
def dfr (D : Nat) : Ent := ⟨fun k => k = D, fun h => h D = some (.deferred (some [])), fun _ _ e s => by rw [e D rfl]; exact s⟩

theorem Mem.putObj {w0 : World} {L : List Ent} {w : World} {e e' : Ent} {l : Nat} {o : Obj} (h : Mem w0 (e :: L) w) (hfp : ∀ k, e'.fp k → e.fp k) (hl : e.fp l)
    (hsat : e'.sat fun k => (w.putObj l o).heap[k]?) : Mem w0 (e' :: L) (w.putObj l o) :=
  h.change (i := 0) rfl hfp (fun k hk => World.putObj_heap_other (fun hkl => hk (hkl ▸ hl))) World.putObj_size ⟨rfl, rfl, rfl⟩ hsat
theorem recE.get {w0 : World} {L : List Ent} {w : World} {D l : Nat} {r : Loop} (h : Mem w0 (recE D l r :: L) w) : w.heap[D]? = some (.deferred (some [])) ∧ w.heap[l]? = some (.loop r) := h.sat (recE D l r) (by simp)
theorem recE.ne {w0 : World} {L : List Ent} {w : World} {D l : Nat} {r : Loop} (h : Mem w0 (recE D l r :: L) w) : D ≠ l := fun e => by
  have := recE.get h; rw [e, this.2] at this; cases this.1
theorem Mem.rec' {w0 : World} {L : List Ent} {w : World} {D l : Nat} {r : Loop} (r' : Loop) (h : Mem w0 (recE D l r :: L) w) : Mem w0 (recE D l r' :: L) (w.putObj l (.loop r')) := by
  have h1 := recE.get h
  refine h.putObj (fun k hk => hk) (.inr rfl) ⟨(World.putObj_heap_other (recE.ne h)).trans h1.1, World.putObj_heap_same (Array.getElem?_eq_some_iff.1 h1.2).1⟩
theorem Mem.recEnd {w0 : World} {L : List Ent} {w : World} {D l : Nat} {r : Loop} (o : Obj) (h : Mem w0 (recE D l r :: L) w) : Mem w0 (dfr D :: L) (w.putObj l o) := by
  have h1 := recE.get h
  refine h.putObj (fun k hk => .inl hk) (.inr rfl) ((World.putObj_heap_other (recE.ne h)).trans h1.1)
theorem Mem.recNew {w0 : World} {L : List Ent} {w : World} (r : Loop) (h : Mem w0 L w) : Mem w0 (recE w.heap.size (w.heap.size + 1) r :: L) ((w.alloc (.deferred (some []))).alloc (.loop r)) := by
  refine h.call (E := [recE w.heap.size (w.heap.size + 1) r]) ⟨((Below.refl _ w).alloc (Nat.le_refl _) _).alloc (by simp) _, fun e he => ?_, fun e he k hk => ?_, by simp⟩
  · obtain rfl : e = recE w.heap.size (w.heap.size + 1) r := by simpa using he
    refine ⟨(Below.heap_alloc _ _ _ (by simp)).trans (World.alloc_heap_new w _), ?_⟩
    have := World.alloc_heap_new (w.alloc (.deferred (some []))) (.loop r); rwa [World.size_alloc] at this
  · obtain rfl : e = recE w.heap.size (w.heap.size + 1) r := by simpa using he
    rw [World.size_alloc, World.size_alloc]
    rcases hk with rfl | rfl <;> omega

/-! What an iterator promises, whatever the loop's body. -/
def Iter (P : Program) (gf : FuncId) (lb : Array Value) (encs : Nat → Array Value) (n : Nat) (Need : World → Prop) : Prop :=
  ∀ (l : Nat) (J Jx : Nat → World → Prop) (W : World), (∀ k A B, J k A → Below A.heap.size A B → J k B) → (∀ k A B, Jx k A → Below A.heap.size A B → Jx k B) → (∀ k A, J k A → Need A) →
    (∀ k A, k < n → J k A → YieldAt (fen none) 0 P l (encs k) A fun e B => (e = .returned (.bool true) ∧ J (k + 1) B) ∨ (e = .returned (.bool false) ∧ Jx (k + 1) B)) → J 0 W →
    Calls P gf (#[.func (.yield l) #[] #[]] ++ lb) W fun e B => (∃ v, e = .returned v) ∧ (J n B ∨ ∃ k, Jx k B)

/-! The caller. -/
section
variable {P : Program} {N : Fra} {w0 : World} {env : Env} {L : List Ent} {Q : Exit → Act → World → Prop}
/-- How a round may be left. -/
def roundQ {X Y : Type} (w0 : World) (r : Ent) (LI : X → List Ent) (inv : X → Prop) (LJ : Y → List Ent) (jn : Y → Prop) : Exit → Act → World → Prop
  | .normal, _, w => ∃ x, inv x ∧ Mem w0 (r :: LI x) w
  | .ret, _, w => ∃ y, jn y ∧ Mem w0 (r :: LJ y) w
  | _, _, _ => False
instance Tame.round {X Y : Type} {r : Ent} {LI : X → List Ent} {inv : X → Prop} {LJ : Y → List Ent} {jn : Y → Prop} : Tame (roundQ w0 r LI inv LJ jn) := ⟨fun _ _ h => h⟩
def noWay : Exit → Act → World → Prop := fun _ _ _ => False
instance Tame.noWay : Tame noWay := ⟨fun _ _ h => h⟩

def envP (ps : List Tmp) (vs : List Value) (env : Env) : Env := (ps.zip vs).foldl (fun e p => (p.1, p.2) :: e) env
theorem rep_params {ro : Option Nat} {ds : List Deferred} {n : Nat} : ∀ (l : List (Tmp × Value)) (t : Array Value) (env : Env), (∀ d v, look env d = some v → t[d]? = some v) → t.size = n → (∀ p ∈ l, p.1 < n) →
    (∀ d v, look (l.foldl (fun e p => (p.1, p.2) :: e) env) d = some v → (l.foldl (fun t p => t.setIfInBounds p.1 p.2) t)[d]? = some v) ∧ (l.foldl (fun t p => t.setIfInBounds p.1 p.2) t).size = n
  | [], _, _, h, hs, _ => ⟨h, hs⟩
  | p :: r, t, env, h, hs, hp => by
    refine rep_params (ro := ro) (ds := ds) r _ _ (fun d v hv => ?_) (by simp [hs]) (fun q hq => hp q (by simp [hq]))
    have hlt : p.1 < n := hp p (by simp)
    simp only [look] at hv
    rw [Array.getElem?_setIfInBounds]
    by_cases he : p.1 = d
    · subst he; simp at hv; simp [hv, hs, hlt]
    · have : Nat.beq p.1 d = false := beq_no he
      rw [this] at hv
      rw [if_neg he]; exact h d v hv

/-- **A range over a function**: x tells what the memory holds between two rounds; a round may leave by 'return'. -/
theorem cw_rangeFunc {n : Nat} {ds : List Nat} {g : Operand} {ps : List Tmp} {assign body : Code} {gf : FuncId} {lb : Array Value} [hf : IsFn P gf] {vals : Nat → List Value} {m : Nat} {Need : World → Prop}
    (hg : ev env g = some (.func (.func gf) #[] lb)) (hit : Iter P gf lb (fun k => (vals k).toArray) m Need) (hps : ∀ k, (vals k).length = ps.length) (hpn : ∀ p ∈ ps, p < n) {envI : Env} (hs : Sub envI env)
    {X Y : Type} (LI : Nat → X → List Ent) (inv : Nat → X → Prop) (x0 : X) (h0 : inv 0 x0) (hL : ∀ w, Mem w0 L w → Mem w0 (LI 0 x0) w) (hneed : ∀ k x w, inv k x → Mem w0 (LI k x) w → Need w)
    (LJ : Y → List Ent) (jn : Y → Prop)
    (hround : ∀ l k x r0, k < m → inv k x → Cw P ⟨n, [], some l⟩ w0 (Exit.then (fun a w => ∃ E LE, Rep ⟨n, [], some l⟩ E a ∧ Mem w0 (r0 :: LE) w ∧ ∀ r1, Cw P ⟨n, [], some l⟩ w0 (roundQ w0 r1 (LI (k + 1)) (inv (k + 1)) LJ jn) body E (r1 :: LE)) noWay) assign (envP ps (vals k) envI) (r0 :: LI k x))
    (hdone : ∀ D x, inv m x → Ex ⟨n, D :: ds, none⟩ w0 Q .normal envI (dfr D :: LI m x))
    (hret : ∀ D y, jn y → Ex ⟨n, D :: ds, none⟩ w0 Q .ret envI (dfr D :: LJ y)) :
    Cw P ⟨n, ds, none⟩ w0 Q (.rangeFunc g ps.toArray assign body) env L := fun a w ha hw => by
  refine wpIn_rangeFunc (F := fen none) (n := 0) fun fn _ => ?_
  obtain ⟨rc, hrec⟩ : ∃ rc : LoopState → Option Code → Loop, rc = fun st pe => { state := st, pending := pe, fn, tmps := a.tmps, params := ps.toArray, assign, body, defers := w.heap.size } := ⟨_, rfl⟩
  obtain ⟨W1, hW1⟩ : ∃ W1, (w.alloc (.deferred (some []))).alloc (.loop (rc .ready none)) = W1 := ⟨_, rfl⟩
  have hM1 : Mem w0 (recE w.heap.size (w.heap.size + 1) (rc .ready none) :: LI 0 x0) W1 := hW1 ▸ (hL _ hw).recNew _
  refine ⟨w.heap.size + 1, [mark w.heap.size], W1, { target := .fn (.func gf) lb, args := #[.func (.yield (w.heap.size + 1)) #[] #[]] }, W1, gf,
    #[.func (.yield (w.heap.size + 1)) #[] #[]] ++ lb, W1, ?_, ?_, ?_, ?_, fun h => (by cases h), ?_⟩
  · rw [← hW1, hrec]; exact run_enterLoop_outer _ _ _ _ _
  · simp only [resolve, ha.ev hg]
    simp [go_sem]
  · intro _ _; trivial
  · obtain ⟨fu, h1, h2, h3⟩ := hf.fn
    have h2' : ¬ fu.body = none := fun e => by simp [e] at h2
    have h3' : ¬ fu.name = "runtime.NumGoroutine" := by simpa using h3
    simp [invoke, callFunc, h1, h2', h3', Result.andThen]
  · refine callsIn_fen ((hit (w.heap.size + 1) (fun k W => ∃ x, inv k x ∧ Mem w0 (recE w.heap.size (w.heap.size + 1) (rc .ready none) :: LI k x) W)
      (fun _ W => ∃ y, jn y ∧ Mem w0 (recE w.heap.size (w.heap.size + 1) (rc .done (some .ret)) :: LJ y) W) _
      (fun k A B ⟨x, h1, h2⟩ hb => ⟨x, h1, h2.step hb⟩) (fun k A B ⟨y, h1, h2⟩ hb => ⟨y, h1, h2.step hb⟩)
      (fun k A ⟨x, h1, h2⟩ => hneed k x A h1 (h2.sub (List.sublist_cons_self _ _))) ?_ ⟨x0, h0, hM1⟩).mono ?_)
    · rintro k W hk ⟨x, hi, hm⟩
      have hl := (recE.get hm).2
      have hy := run_yield (P := P) (args := (vals k).toArray) hl (by rw [hrec]; simp [hps k])
      rw [hrec] at hy
      refine ⟨fn, _, assign, body, hy, roundIn_of_wpIn (F := fen none) trivial (wpIn_mono (hround (w.heap.size + 1) k x _ hk hi _ W ?_ hm) ?_)⟩
      · have hp := rep_params (ro := none) (ds := []) (ps.zip (vals k)) a.tmps envI (ha.sub hs).get ha.size (fun p hp => hpn _ (List.of_mem_zip hp).1)
        simp only [List.zip_toArray, List.foldl_toArray']
        exact ⟨by simpa using hp.2, by simpa [envP] using hp.1, rfl⟩
      · rintro e a1 W1 hq
        cases e with
        | normal =>
          obtain ⟨E, LE, hr1, hm1, hbody⟩ := hq
          have hl1 := (recE.get hm1).2
          refine ⟨_, run_beginRound hl1 (by rw [hrec]), wpIn_mono (hbody _ a1 _ hr1 (hm1.rec' _)) ?_⟩
          rintro e a2 W2 hq2
          cases e with
          | normal =>
            obtain ⟨x', hi', hm2⟩ := hq2
            have hl2 := (recE.get hm2).2
            have he := run_endRound (P := P) none hl2
            refine ⟨_, _, he, .inl ⟨rfl, x', hi', ?_⟩⟩
            have := hm2.rec' (rc .ready none)
            rw [hrec] at this ⊢
            exact this
          | ret =>
            obtain ⟨y, hj, hm2⟩ := hq2
            have hl2 := (recE.get hm2).2
            have he := run_endRound (P := P) (some .ret) hl2
            refine ⟨_, _, he, .inr ⟨rfl, y, hj, ?_⟩⟩
            have := hm2.rec' (rc .done (some .ret))
            rw [hrec] at this ⊢
            exact this
          | exit id => exact hq2.elim
          | goto t => exact hq2.elim
          | panic c => exact hq2.elim
          | outgrown => exact hq2.elim
        | exit id => exact hq.elim
        | goto t => exact hq.elim
        | ret => exact hq.elim
        | panic c => exact hq.elim
        | outgrown => exact hq.elim
    · rintro e W2 ⟨⟨v, rfl⟩, ⟨x, hi, hm⟩ | ⟨_, y, hj, hm⟩⟩
      · have hl := (recE.get hm).2
        have he := run_endLoop (P := P) hl (by rw [hrec]; simp)
        rw [hrec] at he
        refine ⟨none, _, he, hdone w.heap.size x hi _ _ ⟨ha.size, (ha.sub hs).get, ?_⟩ (hm.recEnd _)⟩
        simp [ha.defers]
      · have hl := (recE.get hm).2
        have he := run_endLoop (P := P) hl (by rw [hrec]; simp)
        rw [hrec] at he
        refine ⟨some .ret, _, he, wpIn_ret (hret w.heap.size y hj _ _ ⟨ha.size, (ha.sub hs).get, ?_⟩ (hm.recEnd _))⟩
        simp [ha.defers]

/-! The end of a function that holds a range over a function. -/
theorem ex_retM {n i D : Nat} {L' : List Ent} {fn : Func} {R : Ending → World → Prop} {e : Exit} (he : e = .ret ∨ e = .normal) {v : Value} [k1 : At L (dfr D) i] [k2 : DelI L i L'] (hr : ∀ a w, Rep ⟨n, [], none⟩ env a → Mem w0 L' w → (results fn a.tmps).run P w = .ok v w) (h : ∀ w, Mem w0 L' w → R (.returned v) w) : Ex ⟨n, [D], none⟩ w0 (endPost P fn R) e env L := fun a w ha hw => by
  have hm : Mem w0 (dfr D :: L') w := by have := hw.perm (perm_erase k1.h); rwa [k2.h] at this
  have hD : w.heap[D]? = some (.deferred (some [])) := hm.sat (dfr D) (by simp)
  have hm2 : Mem w0 L' (w.putObj D (.deferred none)) := (hm.putObj (e' := .emp) (fun _ hk => hk.elim) rfl trivial).sub (List.sublist_cons_self _ _)
  have key : LeavesInM (fen none) 0 P fn a.tmps R a.defers .returning w := by
    rw [ha.defers]
    exact ⟨by simp, .inl ⟨D, _, rfl, run_takeDeferred hD, v, hr { tmps := a.tmps, defers := [] } _ ⟨ha.size, ha.get, rfl⟩ hm2, h _ hm2⟩⟩
  rcases he with rfl | rfl
  · exact ⟨.inr rfl, key⟩
  · exact ⟨.inl rfl, key⟩
theorem ex_round {X Y : Type} {r : Ent} {LI : X → List Ent} {inv : X → Prop} {LJ : Y → List Ent} {jn : Y → Prop} {NN : Fra} (x : X) (hi : inv x) (hL : ∀ w, Mem w0 L w → Mem w0 (r :: LI x) w) : Ex NN w0 (roundQ w0 r LI inv LJ jn) .normal env L := fun _ w _ hw => ⟨x, hi, hL w hw⟩
theorem ex_roundRet {X Y : Type} {r : Ent} {LI : X → List Ent} {inv : X → Prop} {LJ : Y → List Ent} {jn : Y → Prop} {NN : Fra} (y : Y) (hj : jn y) (hL : ∀ w, Mem w0 L w → Mem w0 (r :: LJ y) w) : Ex NN w0 (roundQ w0 r LI inv LJ jn) .ret env L := fun _ w _ hw => ⟨y, hj, hL w hw⟩
theorem ex_assigned {NN : Fra} {X Y : Type} {LI : X → List Ent} {inv : X → Prop} {LJ : Y → List Ent} {jn : Y → Prop} {r0 : Ent} {body : Code} (LE : List Ent) (hL : ∀ w, Mem w0 L w → Mem w0 (r0 :: LE) w) (h : ∀ r1, Cw P NN w0 (roundQ w0 r1 LI inv LJ jn) body env (r1 :: LE)) :
    Ex NN w0 (Exit.then (fun a w => ∃ E LE, Rep NN E a ∧ Mem w0 (r0 :: LE) w ∧ ∀ r1, Cw P NN w0 (roundQ w0 r1 LI inv LJ jn) body E (r1 :: LE)) noWay) .normal env L := fun _ w ha hw => ⟨env, LE, ha, hL w hw, h⟩
end

theorem res_none {P : Program} {fn : Func} {N : Fra} {env : Env} {w0 : World} {L : List Ent} (hf : fn.results = #[]) : ∀ a w, Rep N env a → Mem w0 L w → (results fn a.tmps).run P w = .ok (.tuple #[]) w := fun a w _ _ => by
  simp [results, hf]
/-! The iterator. -/
section
variable {P : Program} {n : Nat} {w0 : World} {env : Env} {L : List Ent} {Q : Exit → Act → World → Prop} {l : List Oper} {k : Nat} {rest : List Oper}
/-- The operations of an ordered region, yield among them. -/
def Si (P : Program) (n : Nat) (w0 : World) (l : List Oper) (Q : Exit → Act → World → Prop) (k : Nat) (rest : List Oper) (env : Env) : Prop :=
  l.drop k = rest → ∀ a w, Rep ⟨n, [], none⟩ env a → Mem w0 [] w → wpOpsIn (fen none) 0 P l.toArray Q (List.range' k rest.length) a w
theorem drop_at {α : Type} {l rest : List α} {k : Nat} {o : α} (h : l.drop k = o :: rest) : l[k]? = some o ∧ l.drop (k + 1) = rest := by
  constructor
  · have := congrArg (·[0]?) h; simpa using this
  · have := congrArg (List.drop 1) h; simpa [List.drop_drop, Nat.add_comm] using this
theorem cw_yields {id : Nat} (h : Si P n w0 l Q 0 l env) : Cw P ⟨n, [], none⟩ w0 Q (.region id l.toArray false) env [] := fun a w ha hw =>
  wpIn_region (by have := h rfl a w ha hw; rw [List.range_eq_range']; simpa using this)
theorem si_nil (h : Ex ⟨n, [], none⟩ w0 Q .normal env []) : Si P n w0 l Q k [] env := fun _ a w ha hw => h a w ha hw
theorem si_r {o : Oper} {v : Value} (h : Ry P ⟨n, [], none⟩ w0 env [] o v) (hk : Si P n w0 l Q (k + 1) rest (putE env o.dst v)) (hg : o.guard = none := by rfl) (hd : dstOk ⟨n, [], none⟩ o.dst = true := by rfl) : Si P n w0 l Q k (o :: rest) env := fun hl a w ha hw => by
  obtain ⟨h1, h2⟩ := drop_at hl
  rw [List.length_cons, List.range'_succ]
  unfold wpOpsIn
  simp only [List.getElem?_toArray, h1]
  rw [if_pos (wanted_none hg)]
  refine ⟨fun _ _ => trivial, ?_⟩
  have := h a w ha hw
  rw [show (fen none).round = none from rfl, Oper.semAt_none, this]
  exact hk h2 _ _ (ha.put hd v) hw
/-- A call of yield. -/
theorem si_yield {d : Option Tmp} {ty : TypeId} {ps : String} {af : Array Edge} {t : Tmp} {xs : List Operand} {ts : Array TypeId} {vs : List Value} {lp : Nat} {J Jx : World → Prop}
    (ht : look env t = some (.func (.yield lp) #[] #[])) (hx : evl env xs = some vs) (hy : ∀ w, Mem w0 [] w → YieldAt (fen none) 0 P lp vs.toArray w fun e B => (e = .returned (.bool true) ∧ J B) ∨ (e = .returned (.bool false) ∧ Jx B))
    (h1 : ∀ W, J W → Si P n W l Q (k + 1) rest (putE env d (.bool true))) (h2 : ∀ W, Jx W → Si P n W l Q (k + 1) rest (putE env d (.bool false))) (hd : dstOk ⟨n, [], none⟩ d = true := by rfl) :
    Si P n w0 l Q k (⟨d, .call { callee := .value (.tmp t), args := xs.toArray, argTypes := ts }, ty, ps, af, none⟩ :: rest) env := fun hl a w ha hw => by
  obtain ⟨g1, g2⟩ := drop_at hl
  rw [List.length_cons, List.range'_succ]
  unfold wpOpsIn
  simp only [List.getElem?_toArray, g1]
  rw [if_pos (wanted_none rfl)]
  refine ⟨fun _ _ => trivial, ?_⟩
  obtain ⟨fn, tmps, assign, body, e1, e2⟩ := hy w hw
  have et : a.eval (.tmp t) = .func (.yield lp) #[] #[] := ha.ev (x := .tmp t) ht
  have ex : xs.map a.eval = vs := ha.evl hx
  have e3 : (execOp a.eval ⟨d, .call { callee := .value (.tmp t), args := xs.toArray, argTypes := ts }, ty, ps, af, none⟩).run P w = .ok (.round lp fn tmps assign body) w := by
    simp [execOp, resolve, et, Deferred.ofValue, invoke, callFunc, ex, e1, Result.andThen]
  rw [show (fen none).round = none from rfl, Oper.semAt_none, e3]
  refine ⟨fun h => (by cases h), e2.mono fun e W hW => ?_⟩
  rcases hW with ⟨rfl, hj⟩ | ⟨rfl, hj⟩
  · exact h1 W hj g2 _ W (ha.put hd _) (Mem.init W)
  · exact h2 W hj g2 _ W (ha.put hd _) (Mem.init W)

/-- A loop in which yield is called: J k holds of the world ahead of round k. -/
theorem cw_iter {X : Type} {c : Code} (envI : X → Env) (I : X → World → Prop) (m : X → Nat) (x0 : X) (hs : Sub (envI x0) env) (h0 : ∀ w, Mem w0 L w → I x0 w)
    (round : ∀ x W, I x W → Cw P ⟨n, [], none⟩ W (Exit.then (fun a w => ∃ x', m x' < m x ∧ Rep ⟨n, [], none⟩ (envI x') a ∧ I x' w) Q) c (envI x) []) : Cw P ⟨n, [], none⟩ w0 Q (.loop c) env L := by
  intro a0 w1 ha0 hw1 b k cs hro hb hr
  have key : ∀ n' x, m x = n' → ∀ a w, Rep ⟨n, [], none⟩ (envI x) a → I x w →
      ∃ e a' w', Q e a' w' ∧ ArrivesIn (Machine.fenced P (fen none)) P (lone (b.atR a (.code c :: .inLoop c :: k)) cs w) b k cs e a' w' := by
    intro n'
    induction n' using Nat.strongRecOn with
    | _ n' ih =>
      intro x hm a w ha hI
      obtain ⟨e, a₁, w₁, hq, harr⟩ := round x w hI a w ha (Mem.init w) b (.inLoop c :: k) cs hro hb hr
      cases e with
      | normal =>
        obtain ⟨x', hlt, ha', hI'⟩ := hq
        obtain ⟨e₂, a₂, w₂, hq₂, harr₂⟩ := ih (m x') (hm ▸ hlt) x' rfl a₁ w₁ ha' hI'
        exact ⟨e₂, a₂, w₂, hq₂, .of_steps (StepsIn.trans harr (.one (fenced_calm hb hr rfl) stepR_inLoop)) harr₂⟩
      | exit id => exact ⟨_, a₁, w₁, hq, .pass (x := .inLoop c) rfl (fun _ _ => .inl (by simp)) harr⟩
      | goto l => exact ⟨_, a₁, w₁, hq, .pass (x := .inLoop c) rfl (fun _ _ => .inl (by simp)) harr⟩
      | ret => exact ⟨_, a₁, w₁, hq, .pass (x := .inLoop c) rfl (fun _ _ => .inl (by simp)) harr⟩
      | panic ch => exact ⟨_, a₁, w₁, hq, .pass (x := .inLoop c) rfl (fun _ _ => .inl (by simp)) harr⟩
      | outgrown => exact ⟨_, a₁, w₁, hq, .pass (x := .inLoop c) rfl (fun _ _ => .inl (by simp)) harr⟩
  obtain ⟨e, a', w', hq, harr⟩ := key _ x0 rfl a0 w1 (ha0.sub hs) (h0 w1 hw1)
  exact ⟨e, a', w', hq, .of_steps (.one (fenced_calm hb hr rfl) stepR_loop) harr⟩
theorem ex_iter {X : Type} {envI : X → Env} {I : X → World → Prop} {m : X → Nat} {x : X} (x' : X) (hm : m x' < m x) (hs : Sub (envI x') env) (hI : ∀ w, Mem w0 [] w → I x' w) :
    Ex ⟨n, [], none⟩ w0 (Exit.then (fun a w => ∃ x', m x' < m x ∧ Rep ⟨n, [], none⟩ (envI x') a ∧ I x' w) Q) .normal env [] := fun _ w ha hw => ⟨x', hm, ha.sub hs, hI w hw⟩
/-- A load of a cell that lay there ahead. -/
theorem ry_old {N : Fra} {L : List Ent} {d : Option Tmp} {ty : TypeId} {ps : String} {af : Array Edge} {gd : Option (Nat × Bool)} {t : TypeId} {x : Operand} {p : Addr} {v : Value} [ht : OneT P t] (hx : ev env x = some (.pointer (some p))) (hc : w0.cell? p = some v) : Ry P N w0 env L ⟨d, .load t x, ty, ps, af, gd⟩ v :=
  ry_load_one ht hx fun w hw => (hw.below.cell (by
    unfold World.cell? at hc
    cases ho : w0.heap[p.block]? with
    | none => simp [ho] at hc
    | some o => exact (Array.getElem?_eq_some_iff.1 ho).1)).trans hc
end

/-! Variables of one cell. -/
section
variable {P : Program} {N : Fra} {w0 : World} {env : Env} {L : List Ent} {l : List Oper} {Q : Exit → Act → World → Prop} {rest : List Oper} {d : Option Tmp} {ty : TypeId} {ps : String} {af : Array Edge} {K : Value → List Ent → Prop}
instance CellAt.one {v : Value} : CellAt #[v] 0 v := ⟨rfl⟩
theorem sq_box1 {t : TypeId} {x : Operand} {v : Value} (hc : v.cells = #[v]) (hx : ev env x = some v) (hk : ∀ b, Sq P N w0 l Q rest (putE env d (.pointer (some ⟨b, 0, none⟩))) (blk b #[v] t :: L)) (hd : dstOk N d = true := by rfl) :
    Sq P N w0 l Q (⟨d, .box t x, ty, ps, af, none⟩ :: rest) env L := sq_box hx (by rw [hc]; exact hk) hd
theorem sq_alloc1 {t : TypeId} {z : Value} [hz : ZeroT P t z] (hc : z.cells = #[z]) (hk : ∀ b, Sq P N w0 l Q rest (putE env d (.pointer (some ⟨b, 0, none⟩))) (blk b #[z] t :: L)) (hd : dstOk N d = true := by rfl) :
    Sq P N w0 l Q (⟨d, .alloc t, ty, ps, af, none⟩ :: rest) env L := sq_alloc (z := z) (by rw [hc]; exact hk) hd
theorem sq_store1 {t : TypeId} {x y : Operand} {i b : Nat} {u : Value} {T : TypeId} {v : Value} (hv : v.oneCell' = true) (hx : ev env x = some (.pointer (some ⟨b, 0, none⟩))) (hy : ev env y = some v) [ht : OneT P t] [hh : Has L b #[u] T i] {L' : List Ent} [hu : Upd L i (blk b #[v] T) L'] (hk : Sq P N w0 l Q rest env L') :
    Sq P N w0 l Q (⟨none, .store t x y, ty, ps, af, none⟩ :: rest) env L := sq_store (cs' := #[v]) hx hy (by show 0 < 1; decide) hv rfl hk
theorem st_box1 {t : TypeId} {x : Operand} {v : Value} (hc : v.cells = #[v]) (hx : ev env x = some v) (hk : ∀ b, K ((.pointer (some ⟨b, 0, none⟩))) ((blk b #[v] t :: L))) :
    Stp P N w0 env L ⟨d, .box t x, ty, ps, af, none⟩ K := st_box hx (by rw [hc]; exact hk)
theorem st_alloc1 {t : TypeId} {z : Value} [hz : ZeroT P t z] (hc : z.cells = #[z]) (hk : ∀ b, K ((.pointer (some ⟨b, 0, none⟩))) ((blk b #[z] t :: L))) :
    Stp P N w0 env L ⟨d, .alloc t, ty, ps, af, none⟩ K := st_alloc (z := z) (by rw [hc]; exact hk)
theorem st_store1 {t : TypeId} {x y : Operand} {i b : Nat} {u : Value} {T : TypeId} {v : Value} (hv : v.oneCell' = true) (hx : ev env x = some (.pointer (some ⟨b, 0, none⟩))) (hy : ev env y = some v) [ht : OneT P t] [hh : Has L b #[u] T i] {L' : List Ent} [hu : Upd L i (blk b #[v] T) L'] (hk : K undef L') :
    Stp P N w0 env L ⟨none, .store t x y, ty, ps, af, none⟩ K := st_store (cs' := #[v]) hx hy (by show 0 < 1; decide) hv rfl hk
end

theorem sq_stU {P : Program} {N : Fra} {w0 : World} {env : Env} {L : List Ent} {l : List Oper} {Q : Exit → Act → World → Prop} {rest : List Oper} {ty : TypeId} {ps : String} {af : Array Edge} {t : TypeId} {x y : Operand} {i k p : Nat} {s : Sv} {xs : List UInt8} {a v : UInt8} [ht : OneT P t] (hx : ev env x = some (.pointer (some ⟨s.b, p, none⟩))) (hy : ev env y = some (.int .u8 v.toNat)) [q : Owns L s benc 1 xs i] (ha : xs[k]? = some a) (hp' : p = s.o + k * 1) {L' : List Ent} [hu : Upd L i (own benc 1 s (xs.set k v)) L'] (hk : Sq P N w0 l Q rest env L') :
    Sq P N w0 l Q (⟨none, .store t x y, ty, ps, af, none⟩ :: rest) env L :=
  sq_storeS (j := 0) (n := 1) (a' := v) ht.size hx hy (q := q) (by omega) ha (by simp [Value.cells, Value.oneCell']) rfl (by omega) (by rfl) hk
end Go.Eng

/- Rows opened to their cells: moved within a block, made longer in their room or anew. -/
set_option linter.unusedSimpArgs false
set_option linter.unusedVariables false
namespace Go.Eng
open Go.RowKit

theorem over_cat {A X V : List Value} {o : Nat} (h : o = A.length) : over (A ++ X).toArray o V.toArray = (A ++ (V ++ X.drop V.length)).toArray := by
  subst h
  unfold over
  simp only [List.size_toArray, List.append_assoc]
  rw [List.take_left, List.drop_append]
  simp
section
variable {α : Type} {enc : α → Array Value} {c : Nat} {s : Sv} {xs : List α}
theorem flatR_app (xs ys : List α) : flatR enc (xs ++ ys) = flatR enc xs ++ flatR enc ys := by simp [flatR]
/-- A row's cells in their block. -/
theorem row_cells [he : Enc enc c] (hc : 0 < c) {cs : Array Value} {o : Nat} (hsz : o + xs.length * c ≤ cs.size) (hr : ∀ i x, xs[i]? = some x → ∀ j, j < c → cs[o + i * c + j]? = (enc x)[j]?) :
    cs = (cs.toList.take o ++ (flatR enc xs ++ cs.toList.drop (o + xs.length * c))).toArray := by
  have key : (cs.toList.drop o).take (xs.length * c) = flatR enc xs := by
    refine List.ext_getElem? fun k => ?_
    rcases Nat.lt_or_ge k (xs.length * c) with hk | hk
    · rw [List.getElem?_take_of_lt hk, List.getElem?_drop, Array.getElem?_toList]
      have hd : k / c < xs.length := Nat.div_lt_of_lt_mul (by rwa [Nat.mul_comm])
      have hm := Nat.mod_lt k hc
      have e : k / c * c + k % c = k := by rw [Nat.mul_comm]; exact Nat.div_add_mod k c
      have h1 := hr (k / c) xs[k / c] (by simp [hd]) (k % c) hm
      have h2 := flatR_get (enc := enc) xs (k / c) xs[k / c] (by simp [hd]) (k % c) hm
      rw [e] at h2
      rw [h2, ← h1]; congr 1; omega
    · rw [List.getElem?_eq_none (by simp; omega), List.getElem?_eq_none (by rw [flatR_length]; omega)]
  apply Array.ext'
  simp only
  rw [← key, ← List.append_assoc, show o + xs.length * c = o + xs.length * c from rfl, ← List.drop_drop, List.append_assoc, List.take_append_drop, List.take_append_drop]
theorem min_l {a b : Nat} (h : a ≤ b) : a = Nat.min a b := (Nat.min_eq_left h).symm
theorem min_r {a b : Nat} (h : b ≤ a) : b = Nat.min a b := (Nat.min_eq_right h).symm
theorem set_set {L : List Ent} {i : Nat} {e e' : Ent} : (L.set i e).set i e' = L.set i e' := by simp

/-- A row of the call's own, opened to its block's cells. -/
theorem own_open [he : Enc enc c] (hc : 1 < c) {w0 w : World} {L : List Ent} {i : Nat} (hw : Mem w0 L w) (hi : L[i]? = some (own enc c s xs)) (hn : s.nil = false) :
    ∃ pre mid T, pre.length = s.o ∧ s.o + s.cap * c ≤ pre.length + (xs.length * c + mid.length) ∧ s.sp = none ∧ s.Ok ∧ s.len = xs.length ∧ Mem w0 (L.set i (blk s.b (pre ++ (flatR enc xs ++ mid)).toArray T)) w := by
  obtain ⟨r, hrow⟩ := hw.get hi
  obtain ⟨hsp, cs, T, fz, hblk, hsz, hfz, hf0⟩ := hrow hn
  obtain rfl := hf0 hc
  have hle := r.ok.le
  have hlen := r.len
  have hm : xs.length * c ≤ s.cap * c := Nat.mul_le_mul_right _ (by omega)
  have e := row_cells (enc := enc) (c := c) (xs := xs) (cs := cs) (o := s.o) (by omega) (by omega) fun i x hx j hj => by
    rw [← r.row i x hx j hj]; unfold cellH; rw [hblk]
  refine ⟨cs.toList.take s.o, cs.toList.drop (s.o + xs.length * c), T, by simp; omega, by simp; omega, hsp, r.ok, hlen, ?_⟩
  rw [← e]
  exact hw.change hi (fun k (hk : k = s.b) => ⟨hn, hk⟩) (fun _ _ => rfl) rfl ⟨rfl, rfl, rfl⟩ hblk
/-- And shut. -/
theorem own_shut [he : Enc enc c] {w0 w : World} {L : List Ent} {i b : Nat} {pre mid : List Value} {T : TypeId} (hw : Mem w0 L w) (hi : L[i]? = some (blk b (pre ++ (flatR enc xs ++ mid)).toArray T)) (s' : Sv) (hok : s'.Ok) (hn : s'.nil = false) (hb : s'.b = b) (hsp : s'.sp = none) (ho : s'.o = pre.length) (hl : s'.len = xs.length)
    (hcap : s'.o + s'.cap * c ≤ pre.length + (xs.length * c + mid.length)) : Mem w0 (L.set i (own enc c s' xs)) w := by
  subst hb
  have hblk : hp w s'.b = some (.cells (pre ++ (flatR enc xs ++ mid)).toArray T (0, 0)) := hw.block hi
  refine hw.change hi (fun k hk => hk.2) (fun _ _ => rfl) rfl ⟨rfl, rfl, rfl⟩ ⟨rows_of hok hl hblk fun k y hy j hj => ?_, fun _ => ⟨hsp, _, _, _, hblk, by simp [flatR_length]; omega, free_00 _, fun _ => rfl⟩⟩
  have hlt : k * c + j < (flatR enc xs).length := by
    rw [flatR_length]
    have h1 := (List.getElem?_eq_some_iff.1 hy).1
    calc k * c + j < k * c + c := by omega
      _ = (k + 1) * c := by rw [Nat.add_mul]; omega
      _ ≤ _ := Nat.mul_le_mul_right _ h1
  rw [List.getElem?_toArray, List.getElem?_append_right (by omega), List.getElem?_append_left (by omega), ← flatR_get (enc := enc) xs k y hy j hj]
  congr 1; omega
theorem Sv.sub_o {lo hi : Nat} (h : lo < s.cap) : (s.sub c lo hi).o = s.o + lo * c := by simp only [Sv.sub]; rw [if_neg (by omega)]
theorem Sv.sub_0 {hi : Nat} : (s.sub c 0 hi).o = s.o := by simp only [Sv.sub]; split <;> simp
theorem Sv.sub_eq {hi : Nat} (hn : s.nil = false) (hsp : s.sp = .none) : s.sub c 0 hi = ⟨false, s.b, s.o, hi, s.cap, .none⟩ := by
  have h0 := Sv.sub_0 (s := s) (c := c) (hi := hi)
  obtain ⟨sn, sb, so, sl, sc, ss⟩ := s
  simp only [Sv.sub] at h0 hn hsp ⊢
  subst hn hsp
  rw [h0]; rfl
end

section
variable {P : Program} {N : Fra} {w0 : World} {env : Env} {L : List Ent} {Q : Exit → Act → World → Prop} {l rest : List Oper} {d : Option Tmp} {ty : TypeId} {ps : String} {af : Array Edge} {gd : Option (Nat × Bool)} {K : Value → List Ent → Prop}
variable {α : Type} {enc : α → Array Value} {c : Nat} {s : Sv} {xs : List α}
theorem blk_cells {w : World} {pre A mid : List Value} {T : TypeId} {b o : Nat} {L' : List Ent} (hw : Mem w0 (blk b (pre ++ (A ++ mid)).toArray T :: L') w) (ho : pre.length = o) {j : Nat} {u : Value} (hj : A[j]? = some u) : w.cell? ⟨b, o + j, none⟩ = some u := by
  have hjl := (List.getElem?_eq_some_iff.1 hj).1
  have h0 : (blk b (pre ++ (A ++ mid)).toArray T :: L')[0]? = some (blk b (pre ++ (A ++ mid)).toArray T) := rfl
  rw [hw.cell h0, List.getElem?_toArray, List.getElem?_append_right (by omega), List.getElem?_append_left (by omega), ← hj]
  congr 1; omega
theorem cw_open {code : Code} [he : Enc enc c] {i : Nat} (q : Owns L s enc c xs i) (hc : 1 < c) (hn : 0 < xs.length) {L' : List Value → List Value → TypeId → List Ent} [hu : ∀ pre mid T, Upd L i (blk s.b (pre ++ (flatR enc xs ++ mid)).toArray T) (L' pre mid T)]
    (h : ∀ pre mid T, pre.length = s.o → s.o + s.cap * c ≤ pre.length + (xs.length * c + mid.length) → s.nil = false → s.sp = none → s.Ok → s.len = xs.length → Cw P N w0 Q code env (L' pre mid T)) : Cw P N w0 Q code env L := fun a w ha hw => by
  have hnil := (hw.get q.h).1.some hn
  obtain ⟨pre, mid, T, h1, h2, h3, h4, h5, h6⟩ := own_open hc hw q.h hnil
  rw [(hu pre mid T).h] at h6
  exact h pre mid T h1 h2 hnil h3 h4 h5 a w ha h6
theorem cw_owned {code : Code} {i : Nat} (q : Owns L s enc c xs i) (hn : 0 < xs.length) (h : s.nil = false → s.sp = none → s.Ok → s.len = xs.length → Cw P N w0 Q code env L) : Cw P N w0 Q code env L := fun a w ha hw => by
  obtain ⟨r, hrow⟩ := hw.get q.h
  have hnil := r.some hn
  exact h hnil (hrow hnil).1 r.ok r.len a w ha hw
/-- A row's cells, in any world. -/
theorem own_cells [he : Enc enc c] (hc : 0 < c) {i : Nat} (q : Owns L s enc c xs i) {w : World} (hw : Mem w0 L w) {j : Nat} {v : Value} (hj : (flatR enc xs)[j]? = some v) : w.cell? ⟨s.b, s.o + j, none⟩ = some v := by
  obtain ⟨x, hx, hv⟩ := flatR_div hc hj
  have r := (hw.get q.h).1
  rw [cell_hp, ← hv, ← r.row _ x hx (j % c) (Nat.mod_lt _ hc)]
  congr 1
  have := Nat.div_add_mod j c
  rw [Nat.mul_comm] at this; omega
/-- What copy copies, by rows of c cells. -/
theorem run_copy_rows (w : World) (dT sT ty elem : TypeId) (b o dLen dCap : Nat) (a : Addr) (sLen sCap n : Nat) (cur : Array Value) (t : TypeId) (vs : List Value)
    (hu : P.underlying dT = some (.slice elem)) (hs : (P.info? elem).map (·.size) = some c) (hg : w.heap[b]? = some (.cells cur t (0, 0))) (hn : n = Nat.min sLen dLen) (hv : vs.length = n * c)
    (hsrc : ∀ j v, vs[j]? = some v → w.cell? (a.add j) = some v) (hfit : o + vs.length ≤ cur.size) (h1 : ∀ v ∈ vs, v.oneCell' = true) :
    (Builtin.copy_ #[dT, sT] ty #[.slice (some ⟨b, o, none⟩) dLen dCap, .slice (some a) sLen sCap]).run P w = .ok (goInt n) (w.setRow b (over cur o vs.toArray)) := by
  have hl := run_loadCells_list (P := P) w a vs hsrc
  have hst := run_storeCells_at P b o t vs 0 cur w hg (by simpa using hfit) h1
  rw [hv] at hl
  cases hq : P.info? elem with
  | none => simp [hq] at hs
  | some i =>
    have hi : i.size = c := by simpa [hq] using hs
    simp [Builtin.copy_, run_underlying hu, Builtin.lenOf, Builtin.firstCells, sizeOf, typeInfo, hq, hi, ← hn, hl, hst, over]
theorem sq_copyB {D S : Sv} {x y : Operand} {tx tys e : TypeId} {i b o n : Nat} {cs : Array Value} {T : TypeId} {vs : List Value} (hx : ev env x = some D.val) (hy : ev env y = some S.val)
    (hDn : D.nil = false) (hDs : D.sp = none) (hDb : D.b = b) (hDo : D.o = o) (hSn : S.nil = false) (hSs : S.sp = none) [ht : SliceT P tx e c] [hh : Has L b cs T i] (hn : n = Nat.min S.len D.len) (hv : vs.length = n * c)
    (hsrc : ∀ w, Mem w0 L w → ∀ j v, vs[j]? = some v → w.cell? ⟨S.b, S.o + j, none⟩ = some v) (h1 : ∀ v ∈ vs, v.oneCell' = true) (ho : o + vs.length ≤ cs.size) {cs' : Array Value} {L' : List Ent} (hcs : over cs o vs.toArray = cs') [hu : Upd L i (blk b cs' T) L']
    (hk : Sq P N w0 l Q rest (putE env d (.int .i64 n)) L') (hd : dstOk N d = true := by rfl) :
    Sq P N w0 l Q (⟨d, .call { callee := .builtin .copy, args := #[x, y], argTypes := #[tx, tys] }, ty, ps, af, none⟩ :: rest) env L :=
  sq_run rfl hd fun aa w ha hw => by
    rw [Sv.val_some hDn, hDs, hDb, hDo] at hx
    rw [Sv.val_some hSn, hSs] at hy
    have hb := hw.block hh.h
    have hrun := run_copy_rows (P := P) w tx tys ty e b o D.len D.cap ⟨S.b, S.o, none⟩ S.len S.cap n cs T vs ht.und ht.size hb hn hv (fun j v hj => by rw [Addr.add_none]; exact hsrc w hw j v hj) ho h1
    refine ⟨_, _, _, ?_, by rw [← hu.h, ← hcs]; exact hw.setRow hh.h _, hk⟩
    simp [execOp, ha.ev hx, ha.ev hy, resolve, invoke, builtin, hrun, Result.andThen, goInt]
theorem st_copyB {D S : Sv} {x y : Operand} {tx tys e : TypeId} {i b o n : Nat} {cs : Array Value} {T : TypeId} {vs : List Value} (hx : ev env x = some D.val) (hy : ev env y = some S.val)
    (hDn : D.nil = false) (hDs : D.sp = none) (hDb : D.b = b) (hDo : D.o = o) (hSn : S.nil = false) (hSs : S.sp = none) [ht : SliceT P tx e c] [hh : Has L b cs T i] (hn : n = Nat.min S.len D.len) (hv : vs.length = n * c)
    (hsrc : ∀ w, Mem w0 L w → ∀ j v, vs[j]? = some v → w.cell? ⟨S.b, S.o + j, none⟩ = some v) (h1 : ∀ v ∈ vs, v.oneCell' = true) (ho : o + vs.length ≤ cs.size) {cs' : Array Value} {L' : List Ent} (hcs : over cs o vs.toArray = cs') [hu : Upd L i (blk b cs' T) L']
    (hk : K (.int .i64 n) L') :
    Stp P N w0 env L ⟨d, .call { callee := .builtin .copy, args := #[x, y], argTypes := #[tx, tys] }, ty, ps, af, none⟩ K :=
  st_run fun aa w ha hw => by
    rw [Sv.val_some hDn, hDs, hDb, hDo] at hx
    rw [Sv.val_some hSn, hSs] at hy
    have hb := hw.block hh.h
    have hrun := run_copy_rows (P := P) w tx tys ty e b o D.len D.cap ⟨S.b, S.o, none⟩ S.len S.cap n cs T vs ht.und ht.size hb hn hv (fun j v hj => by rw [Addr.add_none]; exact hsrc w hw j v hj) ho h1
    refine ⟨_, _, _, ?_, by rw [← hu.h, ← hcs]; exact hw.setRow hh.h _, hk⟩
    simp [execOp, ha.ev hx, ha.ev hy, resolve, invoke, builtin, hrun, Result.andThen, goInt]
/-- append within a block's room. -/
theorem st_appendB {D S : Sv} {x y : Operand} {tx tys e e' : TypeId} {by' i b o n : Nat} {cs : Array Value} {T : TypeId} {vs : List Value} (hx : ev env x = some D.val) (hy : ev env y = some S.val)
    (hDn : D.nil = false) (hDs : D.sp = none) (hDb : D.b = b) (hDo : D.o + D.len * c = o) (hSn : S.nil = false) (hSs : S.sp = none) [ht : SlT P tx e c by'] (hts : P.underlying tys = some (.slice e')) [hh : Has L b cs T i] (hn : S.len = n) (hv : vs.length = n * c) (hroom : D.len + n ≤ D.cap)
    (hsrc : ∀ w, Mem w0 L w → ∀ j v, vs[j]? = some v → w.cell? ⟨S.b, S.o + j, none⟩ = some v) (h1 : ∀ v ∈ vs, v.oneCell' = true) (ho : o + vs.length ≤ cs.size) {cs' : Array Value} {L' : List Ent} (hcs : over cs o vs.toArray = cs') [hu : Upd L i (blk b cs' T) L']
    {R : Sv} (hR : R = ⟨false, b, D.o, D.len + n, D.cap, none⟩) (hk : K R.val L') :
    Stp P N w0 env L ⟨d, .call { callee := .builtin .append, args := #[x, y], argTypes := #[tx, tys] }, ty, ps, af, none⟩ K :=
  st_run fun aa w ha hw => by
    subst hR hDo hDb
    rw [Sv.val_some hDn, hDs] at hx
    rw [Sv.val_some hSn, hSs, hn] at hy
    have hb := hw.block hh.h
    obtain ⟨i', z, hi1, hi2, hi3, hi4, hzc⟩ := ht.info
    have hs := Src.ofSlice (P := P) (size := c) w hts ⟨S.b, S.o, none⟩ n S.cap vs hv (fun j v hj => by rw [Addr.add_none]; exact hsrc w hw j v hj) h1
    have hst := run_storeCells_at P D.b (D.o + D.len * c) T vs 0 cs w hb (by simpa using ho) h1
    have hrun : (Builtin.append_ #[tx, tys] ty #[.slice (some ⟨D.b, D.o, none⟩) D.len D.cap, .slice (some ⟨S.b, S.o, none⟩) n S.cap]).run P w = .ok (.slice (some ⟨D.b, D.o, none⟩) (D.len + n) D.cap) (w.setRow D.b (over cs (D.o + D.len * c) vs.toArray)) := by
      subst hi3
      rcases hs.kind with ⟨e', hk⟩ | hk <;> simp [Builtin.append_, run_underlying ht.und, run_underlying hk, sizeOf, typeInfo, hi1, hs.len, hroom, hs.cells, Addr.add_none, hst, over]
    refine ⟨_, _, _, ?_, by rw [← hu.h, ← hcs]; exact hw.setRow hh.h _, hk⟩
    simp [execOp, ha.ev hx, ha.ev hy, resolve, invoke, builtin, hrun, Result.andThen, Sv.val]
theorem sq_appendB {D S : Sv} {x y : Operand} {tx tys e e' : TypeId} {by' i b o n : Nat} {cs : Array Value} {T : TypeId} {vs : List Value} (hx : ev env x = some D.val) (hy : ev env y = some S.val)
    (hDn : D.nil = false) (hDs : D.sp = none) (hDb : D.b = b) (hDo : D.o + D.len * c = o) (hSn : S.nil = false) (hSs : S.sp = none) [ht : SlT P tx e c by'] (hts : P.underlying tys = some (.slice e')) [hh : Has L b cs T i] (hn : S.len = n) (hv : vs.length = n * c) (hroom : D.len + n ≤ D.cap)
    (hsrc : ∀ w, Mem w0 L w → ∀ j v, vs[j]? = some v → w.cell? ⟨S.b, S.o + j, none⟩ = some v) (h1 : ∀ v ∈ vs, v.oneCell' = true) (ho : o + vs.length ≤ cs.size) {cs' : Array Value} {L' : List Ent} (hcs : over cs o vs.toArray = cs') [hu : Upd L i (blk b cs' T) L']
    {R : Sv} (hR : R = ⟨false, b, D.o, D.len + n, D.cap, none⟩) (hk : Sq P N w0 l Q rest (putE env d R.val) L') (hd : dstOk N d = true := by rfl) :
    Sq P N w0 l Q (⟨d, .call { callee := .builtin .append, args := #[x, y], argTypes := #[tx, tys] }, ty, ps, af, none⟩ :: rest) env L :=
  sq_run rfl hd fun aa w ha hw => by
    subst hR hDo hDb
    rw [Sv.val_some hDn, hDs] at hx
    rw [Sv.val_some hSn, hSs, hn] at hy
    have hb := hw.block hh.h
    obtain ⟨i', z, hi1, hi2, hi3, hi4, hzc⟩ := ht.info
    have hs := Src.ofSlice (P := P) (size := c) w hts ⟨S.b, S.o, none⟩ n S.cap vs hv (fun j v hj => by rw [Addr.add_none]; exact hsrc w hw j v hj) h1
    have hst := run_storeCells_at P D.b (D.o + D.len * c) T vs 0 cs w hb (by simpa using ho) h1
    have hrun : (Builtin.append_ #[tx, tys] ty #[.slice (some ⟨D.b, D.o, none⟩) D.len D.cap, .slice (some ⟨S.b, S.o, none⟩) n S.cap]).run P w = .ok (.slice (some ⟨D.b, D.o, none⟩) (D.len + n) D.cap) (w.setRow D.b (over cs (D.o + D.len * c) vs.toArray)) := by
      subst hi3
      rcases hs.kind with ⟨e', hk⟩ | hk <;> simp [Builtin.append_, run_underlying ht.und, run_underlying hk, sizeOf, typeInfo, hi1, hs.len, hroom, hs.cells, Addr.add_none, hst, over]
    refine ⟨_, _, _, ?_, by rw [← hu.h, ← hcs]; exact hw.setRow hh.h _, hk⟩
    simp [execOp, ha.ev hx, ha.ev hy, resolve, invoke, builtin, hrun, Result.andThen, Sv.val]
/-- append of k zero values, anew. -/
theorem sq_appendZ {D : Sv} {x y : Operand} {tx tys e : TypeId} {by' k : Nat} {z : Value} {olds : List Value} {kn kq : IntKind} {iy : Int} {p m : Nat} (hp : D.len = p) (hm : p + k = m) (hx : ev env x = some D.val) (hy : ev env y = some (.int kq iy)) (hk0 : iy = (k : Int)) (h0 : 0 < k)
    (hDn : D.nil = false) (hDs : D.sp = none) [ht : SlT P tx e c by'] (hc : 0 < c) [hz : ZeroT P e z] (htn : P.underlying tys = some (.int kn)) (holds : olds.length = D.len * c) (hsrc : ∀ w, Mem w0 L w → ∀ j v, olds[j]? = some v → w.cell? ⟨D.b, D.o + j, none⟩ = some v)
    (hg : D.cap < D.len + k) (hb : (D.len + k) * by' ≤ 140737488355328) (h63 : D.len + k ≤ 140737488355328)
    (hk : ∀ (b C : Nat) (Z : List Value), m ≤ C → p * c + Z.length = C * c → Sq P N w0 l Q rest (putE env d (Sv.val ⟨false, b, 0, m, C, none⟩)) (blk b (olds ++ Z).toArray e :: L)) (hd : dstOk N d = true := by rfl) :
    Sq P N w0 l Q (⟨d, .call { callee := .builtin .append, args := #[x, y], argTypes := #[tx, tys] }, ty, ps, af, none⟩ :: rest) env L :=
  sq_run rfl hd fun aa w ha hw => by
    subst hk0 hp hm
    rw [Sv.val_some hDn, hDs] at hx
    obtain ⟨i', z', hi1, hi2, hi3, hi4, hzc⟩ := ht.info
    subst hi3 hi4
    have hcap := nextslicecap_le hg
    have hfit : Builtin.nextslicecap (D.len + k) D.cap * i'.bytes ≤ 281474976710656 := by
      have h2 : Builtin.nextslicecap (D.len + k) D.cap * i'.bytes ≤ 2 * (D.len + k) * i'.bytes := Nat.mul_le_mul_right _ hcap
      rw [Nat.mul_assoc] at h2
      omega
    have h48 : k * i'.bytes ≤ 281474976710656 := by
      have : k * i'.bytes ≤ (D.len + k) * i'.bytes := Nat.mul_le_mul_right _ (by omega)
      omega
    have hold := run_firstCells_some (P := P) w.drew i'.size D.len ⟨D.b, D.o, none⟩ D.len D.cap olds holds (fun j v hj => by rw [Addr.add_none]; exact hsrc w hw j v hj)
    have hrun := Lib.run_append_grow_zeros (P := P) w tx tys ty e i' z' kq kn ht.und htn hi1 hi2 (some ⟨D.b, D.o, none⟩) D.len D.cap olds hold k h0 hc hg (by omega) h48 hfit
    have hcge := grownCap_ge w (D.len + k) D.cap e
    generalize grownCap w (D.len + k) D.cap e = C at hrun hcge
    have hZ1 := size_zeroCells z'.cells k
    have hZ2 := size_zeroCells z'.cells (C - (D.len + k))
    rw [hzc] at hZ1 hZ2
    have hZ : D.len * i'.size + (Builtin.zeroCells z'.cells k ++ Builtin.zeroCells z'.cells (C - (D.len + k))).toList.length = C * i'.size := by
      rw [Array.length_toList, Array.size_append, hZ1, hZ2, ← Nat.add_mul, ← Nat.add_mul]; congr 1; omega
    have e1 : olds.toArray ++ Builtin.zeroCells z'.cells k ++ Builtin.zeroCells z'.cells (C - (D.len + k)) = (olds ++ (Builtin.zeroCells z'.cells k ++ Builtin.zeroCells z'.cells (C - (D.len + k))).toList).toArray := by apply Array.ext'; simp
    rw [e1] at hrun
    refine ⟨_, _, _, ?_, hw.drew.alloc _ e, hk w.heap.size C _ hcge hZ⟩
    simp [execOp, ha.ev hx, ha.ev hy, resolve, invoke, builtin, hrun, Result.andThen, Sv.val]
/-- clear, of a block's row. -/
theorem sq_clearB {D : Sv} {x : Operand} {tx e : TypeId} {by' i b o n : Nat} {z : Value} {cs : Array Value} {T : TypeId} (hx : ev env x = some D.val) (hDn : D.nil = false) (hDs : D.sp = none) (hDb : D.b = b) (hDo : D.o = o) (hn : D.len = n) (h0 : 0 < n) [ht : SlT P tx e c by'] [hz : ZeroT P e z] (h1 : z.cells.all (·.oneCell') = true) [hh : Has L b cs T i] (ho : o + n * c ≤ cs.size)
    {L' : List Value → List Ent} [hu : ∀ Z, Upd L i (blk b (over cs o Z.toArray) T) (L' Z)] (hk : ∀ Z : List Value, Z.length = n * c → Sq P N w0 l Q rest env (L' Z)) :
    Sq P N w0 l Q (⟨none, .call { callee := .builtin .clear, args := #[x], argTypes := #[tx] }, ty, ps, af, none⟩ :: rest) env L :=
  sq_run rfl rfl fun aa w ha hw => by
    rw [Sv.val_some hDn, hDs, hDb, hDo, hn] at hx
    have hb := hw.block hh.h
    obtain ⟨i', z', hi1, hi2, hi3, hi4, hzc⟩ := ht.info
    obtain rfl : z' = z := by
      have := hz.zero
      rw [hi1, Option.map_some, hi2] at this; exact Option.some.inj (Option.some.inj this)
    subst hi3
    have hZ := size_zeroCells z'.cells n
    rw [hzc] at hZ
    have hone : ∀ v ∈ (Builtin.zeroCells z'.cells n).toList, v.oneCell' = true := fun v hv => by
      simp only [Builtin.zeroCells, Array.toList_map, List.mem_map] at hv
      obtain ⟨j, hj, rfl⟩ := hv
      have h0' : 0 < z'.cells.size := by
        rcases Nat.eq_zero_or_pos z'.cells.size with h | h
        · rw [h] at hj; simp at hj
        · exact h
      rw [getElem!_pos z'.cells _ (Nat.mod_lt _ h0')]
      exact (Array.all_eq_true_iff_forall_mem.1 h1) _ (Array.getElem_mem _)
    have hst := run_storeCells_at P b o T (Builtin.zeroCells z'.cells n).toList 0 cs w hb (by simp [hZ]; omega) hone
    have hrun : (Builtin.clear_ #[tx] ty #[.slice (some ⟨b, o, none⟩) n D.cap]).run P w = .ok (.tuple #[]) (w.setRow b (over cs o (Builtin.zeroCells z'.cells n))) := by
      obtain ⟨m, rfl⟩ : ∃ m, n = m + 1 := ⟨n - 1, by omega⟩
      simp [Builtin.clear_, run_underlying ht.und, zeroValue, typeInfo, hi1, hi2, hst, over]
    refine ⟨.tuple #[], w.setRow b (over cs o (Builtin.zeroCells z'.cells n)), L' (Builtin.zeroCells z'.cells n).toList, ?_, ?_, hk _ (by rw [Array.length_toList, hZ])⟩
    · simp [execOp, ha.ev hx, resolve, invoke, builtin, hrun, Result.andThen]
    · have h9 := hw.setRow hh.h (over cs o (Builtin.zeroCells z'.cells n))
      rw [← (hu _).h]
      simpa using h9
def Sv.top (s : Sv) (m : Nat) : Sv := ⟨s.nil, s.b, s.o, s.len, m, s.sp⟩
theorem ry_subH3 {t e : TypeId} {x lo hi mx : Operand} {l h m : Nat} {k k' k'' : IntKind} {il ih im : Int} [ht : SliceT P t e c] (hx : ev env x = some s.val) [q : Hd w0 L s enc c xs] (hl : ev env lo = some (.int k il)) (hh : ev env hi = some (.int k' ih)) (hm : ev env mx = some (.int k'' im)) (el : il = (l : Int)) (eh : ih = (h : Int)) (em : im = (m : Int)) (h1 : l ≤ h) (h2 : h ≤ m) (h3 : m ≤ xs.length) :
    Ry P N w0 env L ⟨d, .slice t x (some lo) (some hi) (some mx), ty, ps, af, gd⟩ ((s.top m).sub c l h).val := fun a w ha hw => by
  subst el eh em
  have r := q.h w hw
  have hs := r.ok
  have hlen := r.len
  have hle := hs.le
  have ee := elem_of ht.und
  have hu : P.underlying t = some (.slice (P.elem t)) := by rw [ee]; exact ht.und
  obtain ⟨ad, len, cap, ev'⟩ := s.ex
  have e3 : len = s.len ∧ cap = s.cap ∧ sliced ad l h m c = ((s.top m).sub c l h).val := by
    cases hn : s.nil with
    | true =>
      rw [Sv.val_nil hn] at ev'
      obtain ⟨rfl, rfl, rfl⟩ := by simpa using ev'
      have := hs.nil hn
      have e2 : ((s.top m).sub c l h).nil = true := hn
      rw [Sv.val_nil e2]
      have : l = 0 := by omega
      have : h = 0 := by omega
      have : m = 0 := by omega
      subst l h m
      exact ⟨by omega, by omega, by simp [sliced]⟩
    | false =>
      rw [Sv.val_some hn] at ev'
      obtain ⟨rfl, rfl, rfl⟩ := by simpa using ev'
      have e2 : ((s.top m).sub c l h).nil = false := hn
      rw [Sv.val_some e2]
      refine ⟨rfl, rfl, ?_⟩
      simp only [sliced, Sv.sub, Sv.top]
      by_cases hc : m = l
      · simp [hc]
      · have hsp := hs.sp (by omega)
        simp [hc, hsp, Addr.add_none]
  obtain ⟨e1, e2, e3⟩ := e3
  have hr := run_slice_lhm (P := P) (w := w) t ad len cap hu k k' k'' (l : Int) (h : Int) (m : Int) (by omega) (by omega) (by omega) (by omega)
  rw [ee, run_sizeOf' w ht.size] at hr
  simp only [Result.andThen, Int.toNat_natCast, e3] at hr
  simp only [execOp, ha.ev hx, ha.ev hl, ha.ev hh, ha.ev hm, ev', Option.map_some, run_sliceAt_slice (h := hu), hr, Sem.run_bind, Result.andThen, Sem.run_pure]
theorem ry_capSv {t e : TypeId} {x : Operand} {m n : Nat} [ht : SliceT P t e m] (hx : ev env x = some s.val) (hnil : s.nil = false) (hn : s.cap = n) :
    Ry P N w0 env L ⟨d, .call { callee := .builtin .cap, args := #[x], argTypes := #[t] }, ty, ps, af, gd⟩ (.int .i64 n) := fun a w ha _ => by
  subst hn
  rw [Sv.val_some hnil] at hx
  have hu : P.underlying t = some (.slice (P.elem t)) := by rw [elem_of ht.und]; exact ht.und
  have := run_cap_slice (P := P) (w := w) t ty (some ⟨s.b, s.o, s.sp⟩) s.len s.cap hu
  simp [execOp, ha.ev hx, resolve, invoke, builtin, this, Result.andThen, goInt]
/-- The function overlaps, as the model tells it. -/
class OvF (P : Program) (f : FuncId) (tS tR : outParam TypeId) : Prop where
  fn : ∃ fn, P.funcs[f]? = some fn ∧ (fn.name == "runtime.NumGoroutine") = false ∧ fn.body.isNone = true ∧ Extern.findNext fn = none ∧ Extern.find fn = some (Extern.SlicesOverlaps.overlaps #[tS, tS] #[tR])
theorem Mem.apart {w : World} {i j k : Nat} {e e' : Ent} (h : Mem w0 L w) (hi : L[i]? = some e) (hj : L[j]? = some e') (hij : i ≠ j) (hk : e.fp k) : ¬ e'.fp k := by
  obtain ⟨gi, rfl⟩ := List.getElem?_eq_some_iff.1 hi
  obtain ⟨gj, rfl⟩ := List.getElem?_eq_some_iff.1 hj
  have hd := List.pairwise_iff_getElem.1 h.dis
  rcases Nat.lt_or_gt_of_ne hij with h1 | h1
  · exact hd i j gi gj h1 k hk
  · exact fun h2 => hd j i gj gi h1 k h2 hk
theorem ry_overlaps {V D : Sv} {x y : Operand} {f : FuncId} {ts : Array TypeId} {tS tR e T : TypeId} {i j b : Nat} {cs : Array Value} (hx : ev env x = some V.val) (hy : ev env y = some D.val) [hf : OvF P f tS tR] [ht : SliceT P tS e c] (hc : 1 < c) [q : Owns L V enc c xs i] (hv : 0 < xs.length) [hh : Has L b cs T j] (hDn : D.nil = false) (hDs : D.sp = none) (hDb : D.b = b) (hcs : 0 < cs.size) (hij : i ≠ j := by decide) :
    Ry P N w0 env L ⟨d, .call { callee := .value (.func f), args := #[x, y], argTypes := ts }, ty, ps, af, gd⟩ (.bool false) := fun a w ha hw => by
  obtain ⟨r, hrow⟩ := hw.get q.h
  have hVn := r.some hv
  obtain ⟨hVs, cv, Tv, fz, hblk, hsz, hfz, hf0⟩ := hrow hVn
  obtain rfl := hf0 hc
  have hb := hw.block hh.h
  have hne : V.b ≠ b := fun e0 => hw.apart q.h hh.h hij (k := V.b) ⟨hVn, rfl⟩ e0
  subst hDb
  rw [Sv.val_some hVn, hVs] at hx
  rw [Sv.val_some hDn, hDs] at hy
  obtain ⟨fn, h1, h2, h3, h4, h5⟩ := hf.fn
  have hrun := Lib.run_overlaps_apart (P := P) w tS tR e ht.und c (fun w => run_sizeOf' w ht.size) ⟨V.b, V.o, none⟩ ⟨D.b, D.o, none⟩ V.len V.cap D.len D.cap hne Tv T cv.size cs.size (by simp [World.shape?, hblk]) (by simp [World.shape?, hb]) (by omega) (by simp [World.frozen?, hblk]) (by simp [World.frozen?, hblk])
  have hcall := run_callFunc_extern (P := P) h1 h2 h3 h4 h5 #[.slice (some ⟨V.b, V.o, none⟩) V.len V.cap, .slice (some ⟨D.b, D.o, none⟩) D.len D.cap] w
  rw [hrun] at hcall
  have e1 : a.eval (.func f) = .func (.func f) #[] #[] := rfl
  simp [execOp, ha.ev hx, ha.ev hy, resolve, e1, Deferred.ofValue, invoke, hcall, Result.andThen]
end
end Go.Eng

