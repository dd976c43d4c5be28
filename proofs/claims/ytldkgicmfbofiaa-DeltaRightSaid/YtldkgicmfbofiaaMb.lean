/- Slices: what they hold, by rows; those that came in and those that the call itself has made. -/
import Derived.Test.YtldkgicmfbofiaaMa
import Derived.Deep.AppendSrc
import Derived.Laws.MakeOwn
import Derived.Laws.Append
import Derived.Laws.Slices
import Derived.Laws.AppendOwn
import Derived.Laws.IdiomStrings
import Derived.Laws.Strings
import Derived.Laws.Cover3
import Derived.Lib.AppendZerosOnto
import Derived.Lib.Overlaps

set_option linter.unusedSimpArgs false
set_option linter.unusedVariables false
namespace Go.Eng
open Go.RowKit

structure Sv where
  nil : Bool
  b : Nat
  o : Nat
  len : Nat
  cap : Nat
  sp : Option Nat
def Sv.val (s : Sv) : Value := match s.nil with
  | true => .slice none 0 0
  | false => .slice (some ⟨s.b, s.o, s.sp⟩) s.len s.cap
structure Sv.Ok (s : Sv) : Prop where
  nil : s.nil = true → s.len = 0 ∧ s.cap = 0
  le : s.len ≤ s.cap
  bd : s.len ≤ 140737488355328
  sp : 0 < s.cap → s.sp = none
theorem Sv.Ok.some {s : Sv} (h : s.Ok) (hl : 0 < s.len) : s.nil = false := by
  cases hn : s.nil with
  | false => rfl
  | true => have := h.nil hn; omega
theorem Sv.val_some {s : Sv} (h : s.nil = false) : s.val = .slice (some ⟨s.b, s.o, s.sp⟩) s.len s.cap := by simp [Sv.val, h]
theorem Sv.val_nil {s : Sv} (h : s.nil = true) : s.val = .slice none 0 0 := by simp [Sv.val, h]
def Sv.none : Sv := ⟨true, 0, 0, 0, 0, .none⟩
theorem Sv.none_ok : Sv.none.Ok := ⟨fun _ => ⟨rfl, rfl⟩, Nat.le_refl _, Nat.zero_le _, fun _ => rfl⟩
theorem Sv.one (s : Sv) : s.val.oneCell' = true := by unfold Sv.val; split <;> rfl

def cellH (h : Nat → Option Obj) (b o : Nat) : Option Value := match h b with
  | some (.cells cs _ _) => cs[o]?
  | _ => none
abbrev hp (w : World) : Nat → Option Obj := fun k => w.heap[k]?
theorem cell_hp (w : World) (b o : Nat) : w.cell? ⟨b, o, none⟩ = cellH (hp w) b o := by
  unfold World.cell? cellH
  split <;> simp_all

class Enc {α : Type} (enc : α → Array Value) (c : outParam Nat) : Prop where
  size : ∀ x, (enc x).size = c
  one : ∀ x, (enc x).all (·.oneCell') = true

structure Lies {α : Type} (enc : α → Array Value) (c : Nat) (h : Nat → Option Obj) (s : Sv) (xs : List α) : Prop where
  ok : s.Ok
  len : s.len = xs.length
  row : ∀ i x, xs[i]? = some x → ∀ j, j < c → cellH h s.b (s.o + i * c + j) = (enc x)[j]?

theorem Lies.some {α : Type} {enc : α → Array Value} {c : Nat} {h : Nat → Option Obj} {s : Sv} {xs : List α} (r : Lies enc c h s xs) {i : Nat} (hi : i < xs.length) : s.nil = false := r.ok.some (by rw [r.len]; omega)
theorem Lies.nil {α : Type} (enc : α → Array Value) (c : Nat) (h : Nat → Option Obj) : Lies enc c h Sv.none ([] : List α) := ⟨Sv.none_ok, rfl, by simp⟩

theorem Lies.bd {α : Type} {enc : α → Array Value} {c : Nat} {h : Nat → Option Obj} {s : Sv} {xs : List α} (r : Lies enc c h s xs) : xs.length ≤ 140737488355328 := by have := r.ok.bd; have := r.len; omega
theorem Lies.mono {α : Type} {enc : α → Array Value} {c : Nat} [he : Enc enc c] {w w' : World} {s : Sv} {xs : List α} (r : Lies enc c (hp w) s xs) (hb : Below w.heap.size w w') : Lies enc c (hp w') s xs :=
  ⟨r.ok, r.len, fun i x hi j hj => by
    have h := r.row i x hi j hj
    rw [← h]
    have hsome : ((enc x)[j]?).isSome := by rw [Array.getElem?_eq_getElem (by rw [he.size]; exact hj)]; rfl
    rw [← h] at hsome
    have hlt : s.b < w.heap.size := by
      rcases Nat.lt_or_ge s.b w.heap.size with h' | h'
      · exact h'
      · simp [cellH, hp, Array.getElem?_eq_none h'] at hsome
    have e : (hp w') s.b = (hp w) s.b := hb.block s.b hlt
    unfold cellH
    rw [e]⟩

def Free (n : Nat) (fz : Nat × Nat) : Prop := ∀ j, j < n → ¬ (fz.1 ≤ j ∧ j < fz.2)
theorem free_00 (n : Nat) : Free n (0, 0) := fun j _ h => by have := h.2; simp at this
def own {α : Type} (enc : α → Array Value) (c : Nat) (s : Sv) (xs : List α) : Ent :=
  ⟨fun k => s.nil = false ∧ k = s.b, fun h => Lies enc c h s xs ∧ (s.nil = false → s.sp = .none ∧ ∃ cs T fz, h s.b = some (.cells cs T fz) ∧ s.o + s.cap * c ≤ cs.size ∧ Free cs.size fz ∧ (1 < c → fz = (0, 0))),
   fun h h' e st => by
    cases hn : s.nil with
    | true =>
      refine ⟨⟨st.1.ok, st.1.len, fun i x hi => ?_⟩, fun h => by cases h⟩
      have := st.1.some (List.getElem?_eq_some_iff.1 hi).1
      rw [hn] at this; cases this
    | false =>
      have e1 := e s.b ⟨hn, rfl⟩
      refine ⟨⟨st.1.ok, st.1.len, fun i x hi j hj => ?_⟩, fun _ => ?_⟩
      · rw [← st.1.row i x hi j hj]; unfold cellH; rw [e1]
      · rw [e1]; exact st.2 hn⟩

section
variable {P : Program} {N : Fra} {w0 : World} {env : Env} {L : List Ent} {d : Option Tmp} {ty : TypeId} {ps : String} {af : Array Edge} {gd : Option (Nat × Bool)}
variable {α : Type} {enc : α → Array Value} {c : Nat} {s : Sv} {xs : List α}

def Holds (w0 : World) (L : List Ent) {α : Type} (enc : α → Array Value) (c : Nat) (s : Sv) (xs : List α) : Prop := ∀ w, Mem w0 L w → Lies enc c (hp w) s xs
theorem holds_given [Enc enc c] (r : Lies enc c (hp w0) s xs) : Holds w0 L enc c s xs := fun _ hw => r.mono hw.below
class At (L : List Ent) (e : Ent) (i : outParam Nat) : Prop where
  h : L[i]? = some e
instance (priority := high) At.here {L : List Ent} {e : Ent} : At (e :: L) e 0 := ⟨rfl⟩
instance At.there {L : List Ent} {e x : Ent} {i : Nat} [q : At L e i] : At (x :: L) e (i + 1) := ⟨by simpa using q.h⟩
theorem holds_own {i : Nat} [q : At L (own enc c s xs) i] : Holds w0 L enc c s xs := fun _ hw => (hw.get q.h).1

theorem ry_lenS {t e : TypeId} {x : Operand} {m n : Nat} [ht : SliceT P t e m] (hx : ev env x = some s.val) (hs : s.Ok) (hn : s.len = n) :
    Ry P N w0 env L ⟨d, .call { callee := .builtin .len, args := #[x], argTypes := #[t] }, ty, ps, af, gd⟩ (.int .i64 n) := by
  subst hn
  cases h : s.nil with
  | false => rw [Sv.val_some h] at hx; exact ry_len_slice hx
  | true =>
    rw [Sv.val_nil h] at hx
    rw [(hs.nil h).1]
    exact ry_len_slice hx
theorem ry_idxSv {t e : TypeId} {x ix : Operand} {m i : Nat} {k : IntKind} {j : Int} [ht : SliceT P t e m] (hx : ev env x = some s.val) (hj : ev env ix = some (.int k j)) (ej : j = (i : Int)) (hs : s.Ok) (h1 : i < s.len) :
    Ry P N w0 env L ⟨d, .indexAddr t x ix, ty, ps, af, gd⟩ (.pointer (some ⟨s.b, s.o + i * m, none⟩)) := by
  subst ej
  rw [Sv.val_some (hs.some (by omega)), hs.sp (by have := hs.le; omega)] at hx
  have := ry_idxS (P := P) (N := N) (w0 := w0) (L := L) (d := d) (ty := ty) (ps := ps) (af := af) (gd := gd) (t := t) hx hj (by omega) (by omega)
  simpa using this

theorem ry_elem {t : TypeId} {x : Operand} {i p : Nat} {a : α} [ht : RowT P t c] [he : Enc enc c] (hx : ev env x = some (.pointer (some ⟨s.b, p, none⟩))) (hR : Holds w0 L enc c s xs) (hi : xs[i]? = some a) (hp' : p = s.o + i * c) :
    Ry P N w0 env L ⟨d, .load t x, ty, ps, af, gd⟩ (.agg (enc a)) := ry_load_agg ht hx (he.size a) fun w hw j hj => by
  rw [Addr.add_none, cell_hp, hp', (hR w hw).row i a hi j hj]
theorem ry_elemc {t : TypeId} {x : Operand} {i p j : Nat} {a : α} {v : Value} [ht : OneT P t] (hx : ev env x = some (.pointer (some ⟨s.b, p, none⟩))) (hR : Holds w0 L enc c s xs) (hi : xs[i]? = some a) (hp' : p = s.o + i * c + j) (hj : j < c) (hv : (enc a)[j]? = some v) :
    Ry P N w0 env L ⟨d, .load t x, ty, ps, af, gd⟩ v := ry_load_one ht hx fun w hw => by
  rw [cell_hp, hp', (hR w hw).row i a hi j hj, hv]
theorem ry_elemp {t : TypeId} {x : Operand} {i p j n : Nat} {a : α} {sub : Array Value} [ht : RowT P t n] (hx : ev env x = some (.pointer (some ⟨s.b, p, none⟩))) (hR : Holds w0 L enc c s xs) (hi : xs[i]? = some a) (hp' : p = s.o + i * c + j) (hj : j + n ≤ c) [hs : PartAt (enc a) j n sub] :
    Ry P N w0 env L ⟨d, .load t x, ty, ps, af, gd⟩ (.agg sub) := ry_load_agg ht hx hs.size fun w hw k hk => by
  rw [Addr.add_none, cell_hp, hp', Nat.add_assoc, (hR w hw).row i a hi (j + k) (by omega)]; exact hs.h k hk

/-! Slices of slices. -/
def Sv.sub (s : Sv) (c lo hi : Nat) : Sv := ⟨s.nil, s.b, if s.cap = lo then s.o else s.o + lo * c, hi - lo, s.cap - lo, s.sp⟩
theorem Sv.Ok.sub {lo hi : Nat} (h : s.Ok) (h2 : hi ≤ s.cap) (h3 : hi ≤ s.len) : (s.sub c lo hi).Ok :=
  ⟨fun hn => by have := h.nil hn; simp only [Sv.sub]; omega, by simp only [Sv.sub]; omega, by have := h.bd; simp only [Sv.sub]; omega, fun hc => h.sp (by simp only [Sv.sub] at hc; omega)⟩
theorem Lies.sub {h : Nat → Option Obj} (r : Lies enc c h s xs) {lo hi : Nat} (h1 : lo ≤ hi) (h2 : hi ≤ xs.length) : Lies enc c h (s.sub c lo hi) ((xs.drop lo).take (hi - lo)) := by
  have hl := r.len
  have hc := r.ok.le
  refine ⟨r.ok.sub (by omega) (by omega), by simp [Sv.sub]; omega, fun i x hi' j hj => ?_⟩
  have hlt : i < hi - lo := by
    have := (List.getElem?_eq_some_iff.1 hi').1
    simp at this; omega
  rw [List.getElem?_take, if_pos hlt, List.getElem?_drop] at hi'
  have := r.row (lo + i) x hi' j hj
  rw [← this]
  have e : (s.sub c lo hi).o = s.o + lo * c := by
    simp only [Sv.sub]; rw [if_neg (by omega)]
  rw [e, show (s.sub c lo hi).b = s.b from rfl]
  congr 1
  rw [Nat.add_mul]; omega
theorem Holds.sub (r : Holds w0 L enc c s xs) {lo hi : Nat} (h1 : lo ≤ hi) (h2 : hi ≤ xs.length) : Holds w0 L enc c (s.sub c lo hi) ((xs.drop lo).take (hi - lo)) := fun w hw => (r w hw).sub h1 h2

theorem elem_of {t e : TypeId} (hu : P.underlying t = some (.slice e)) : P.elem t = e := by simp [Program.elem, hu]
theorem slicedSv {lo hi : Nat} (hs : s.Ok) (h2 : lo ≤ hi) (h : hi ≤ s.cap) : ∀ a len cap, s.val = .slice a len cap → len = s.len ∧ cap = s.cap ∧ sliced a lo hi cap c = (s.sub c lo hi).val := by
  intro a len cap e
  cases hn : s.nil with
  | true =>
    rw [Sv.val_nil hn] at e
    obtain ⟨rfl, rfl, rfl⟩ := by simpa using e
    have := hs.nil hn
    have e2 : (s.sub c lo hi).nil = true := hn
    rw [Sv.val_nil e2]
    have : lo = 0 := by omega
    have : hi = 0 := by omega
    subst lo hi
    exact ⟨by omega, by omega, by simp [sliced]⟩
  | false =>
    rw [Sv.val_some hn] at e
    obtain ⟨rfl, rfl, rfl⟩ := by simpa using e
    have e2 : (s.sub c lo hi).nil = false := hn
    rw [Sv.val_some e2]
    refine ⟨rfl, rfl, ?_⟩
    simp only [sliced, Sv.sub]
    by_cases hc : s.cap = lo
    · simp [hc]
    · have hsp := hs.sp (by omega)
      simp [hc, hsp, Addr.add_none]
theorem Sv.ex (s : Sv) : ∃ ad len cap, s.val = .slice ad len cap := by unfold Sv.val; split <;> exact ⟨_, _, _, rfl⟩
theorem ry_subS {t e : TypeId} {x lo hi : Operand} {m l h : Nat} {k k' : IntKind} {il ih : Int} [ht : SliceT P t e m] (hx : ev env x = some s.val) (hl : ev env lo = some (.int k il)) (hh : ev env hi = some (.int k' ih)) (el : il = (l : Int)) (eh : ih = (h : Int)) (hs : s.Ok) (h1 : l ≤ h) (h2 : h ≤ s.cap) :
    Ry P N w0 env L ⟨d, .slice t x (some lo) (some hi) none, ty, ps, af, gd⟩ (s.sub m l h).val := fun a w ha _ => by
  subst el eh
  have ee := elem_of ht.und
  have hu : P.underlying t = some (.slice (P.elem t)) := by rw [ee]; exact ht.und
  obtain ⟨ad, len, cap, ev'⟩ := s.ex
  obtain ⟨e1, e2, e3⟩ := slicedSv (c := m) hs h1 h2 ad len cap ev'
  have hr := run_slice_lh (P := P) (w := w) t ad len cap hu k k' (l : Int) (h : Int) (by omega) (by omega) (by omega)
  rw [ee, run_sizeOf' w ht.size] at hr
  simp only [Result.andThen, Int.toNat_natCast, e3] at hr
  simp only [execOp, ha.ev hx, ha.ev hl, ha.ev hh, ev', Option.map_some, Option.map_none, run_sliceAt_slice (h := hu), hr, Sem.run_bind, Result.andThen, Sem.run_pure]
theorem ry_subS_hi {t e : TypeId} {x hi : Operand} {m h : Nat} {k' : IntKind} {ih : Int} [ht : SliceT P t e m] (hx : ev env x = some s.val) (hh : ev env hi = some (.int k' ih)) (eh : ih = (h : Int)) (hs : s.Ok) (h2 : h ≤ s.cap) :
    Ry P N w0 env L ⟨d, .slice t x none (some hi) none, ty, ps, af, gd⟩ (s.sub m 0 h).val := fun a w ha _ => by
  subst eh
  have ee := elem_of ht.und
  have hu : P.underlying t = some (.slice (P.elem t)) := by rw [ee]; exact ht.und
  obtain ⟨ad, len, cap, ev'⟩ := s.ex
  obtain ⟨e1, e2, e3⟩ := slicedSv (c := m) hs (Nat.zero_le h) h2 ad len cap ev'
  have hr := run_slice_h (P := P) (w := w) t ad len cap hu k' (h : Int) (by omega) (by omega)
  rw [ee, run_sizeOf' w ht.size] at hr
  simp only [Result.andThen, Int.toNat_natCast, e3] at hr
  simp only [execOp, ha.ev hx, ha.ev hh, ev', Option.map_some, Option.map_none, run_sliceAt_slice (h := hu), hr, Sem.run_bind, Result.andThen, Sem.run_pure]
theorem ry_subS_lo {t e : TypeId} {x lo : Operand} {m l n : Nat} {k : IntKind} {il : Int} [ht : SliceT P t e m] (hx : ev env x = some s.val) (hl : ev env lo = some (.int k il)) (el : il = (l : Int)) (hs : s.Ok) (hn : s.len = n) (h1 : l ≤ n) :
    Ry P N w0 env L ⟨d, .slice t x (some lo) none none, ty, ps, af, gd⟩ (s.sub m l n).val := fun a w ha _ => by
  subst el hn
  have ee := elem_of ht.und
  have hu : P.underlying t = some (.slice (P.elem t)) := by rw [ee]; exact ht.und
  obtain ⟨ad, len, cap, ev'⟩ := s.ex
  obtain ⟨e1, e2, e3⟩ := slicedSv (c := m) hs h1 hs.le ad len cap ev'
  have hle := hs.le
  have hr := run_slice_l (P := P) (w := w) t ad len cap hu k (l : Int) (by omega) (by omega)
  rw [ee, run_sizeOf' w ht.size] at hr
  simp only [Result.andThen, Int.toNat_natCast, e1] at hr
  rw [e1] at ev'
  rw [e3] at hr
  simp only [execOp, ha.ev hx, ha.ev hl, ev', Option.map_some, Option.map_none, run_sliceAt_slice (h := hu), hr, Sem.run_bind, Result.andThen, Sem.run_pure]
end

end Go.Eng

/- Slices that the call itself makes: made, appended to, written. -/
namespace Go.Eng
open Go.RowKit

theorem set_perm (x : Ent) : ∀ (L : List Ent) (i : Nat), i < L.length → (x :: L.eraseIdx i).Perm (L.set i x)
  | [], _, h => by simp at h
  | _ :: _, 0, _ => by simp
  | a :: L, i + 1, h => by
    simp only [List.eraseIdx_cons_succ, List.set_cons_succ]
    exact (List.Perm.swap a x _).trans ((set_perm x L i (by simpa using h)).cons a)

theorem Mem.swap {w0 : World} {L : List Ent} {w w' : World} {E : Ent} (h : Mem w0 L w) {i : Nat} (hi : i < L.length) (h' : Mem w [E] w') : Mem w0 (L.set i E) w' :=
  ((h.call h').sub (L' := E :: L.eraseIdx i) ((List.eraseIdx_sublist L i).cons_cons E)).perm (set_perm E L i hi)
theorem At.lt {L : List Ent} {e : Ent} {i : Nat} (h : L[i]? = some e) : i < L.length := (List.getElem?_eq_some_iff.1 h).1

class SlT (P : Program) (t : TypeId) (e : outParam TypeId) (c : outParam Nat) (by' : outParam Nat) : Prop where
  und : P.underlying t = some (.slice e)
  row : (P.info? e).map (fun i => (i.zero.map (·.cells.size), i.size, i.bytes)) = some (some c, c, by')
theorem SlT.info {P : Program} {t e : TypeId} {c by' : Nat} (h : SlT P t e c by') : ∃ i z, P.info? e = some i ∧ i.zero = some z ∧ i.size = c ∧ i.bytes = by' ∧ z.cells.size = c := by
  have h := h.row
  cases hi : P.info? e with
  | none => simp [hi] at h
  | some i =>
    cases hz : i.zero with
    | none => simp [hi, hz] at h
    | some z => simp [hi, hz] at h; exact ⟨i, z, rfl, hz, h.2.1, h.2.2, h.1⟩

theorem cells_over {cs vs : Array Value} {o j : Nat} (ho : o + vs.size ≤ cs.size) : (over cs o vs)[j]? = if o ≤ j ∧ j < o + vs.size then vs[j - o]? else cs[j]? := by
  unfold over
  simp only [List.getElem?_toArray]
  rw [List.append_assoc, List.getElem?_append]
  have e1 : (List.take o cs.toList).length = o := by simp; omega
  rw [e1]
  by_cases h1 : j < o
  · rw [if_pos h1, if_neg (by omega), List.getElem?_take, if_pos h1]; simp
  · rw [if_neg h1, List.getElem?_append]
    by_cases h2 : j - o < vs.toList.length
    · rw [if_pos h2, if_pos (by simp at h2; omega)]; simp
    · rw [if_neg h2, if_neg (by simp at h2; omega), List.getElem?_drop]
      simp at h2 ⊢
      congr 1; omega
theorem over_size {cs vs : Array Value} {o : Nat} (ho : o + vs.size ≤ cs.size) : (over cs o vs).size = cs.size := by
  simp [over]; omega

theorem run_storeCells_free {P : Program} (g o : Nat) (t : TypeId) (fz : Nat × Nat) : ∀ (vs : List Value) (i : Nat) (cur : Array Value) (w : World), w.heap[g]? = some (.cells cur t fz) → Free cur.size fz → o + i + vs.length ≤ cur.size → (∀ v ∈ vs, v.oneCell' = true) →
    (storeCells ⟨g, o, none⟩ vs i).run P w = .ok () (w.setRow g (cur.toList.take (o + i) ++ vs ++ cur.toList.drop (o + i + vs.length)).toArray)
  | [], i, cur, w, hg, _, _, _ => by
    simp only [storeCells, List.append_nil, List.length_nil, Nat.add_zero, List.take_append_drop, Array.toArray_toList]
    rw [setRow_self w g cur t fz hg]
    rfl
  | v :: rest, i, cur, w, hg, hf, hl, h1 => by
    have hi : o + i < cur.size := by simp at hl; omega
    have hadd : (⟨g, o, none⟩ : Addr).add i = ⟨g, o + i, none⟩ := by unfold Addr.add; split <;> simp_all
    have hcell : w.cell? ⟨g, o + i, none⟩ = some cur[o + i] := by simp [World.cell?, hg, hi]
    have hfro : w.frozen? ⟨g, o + i, none⟩ = false := by
      have := hf (o + i) hi
      obtain ⟨a, b⟩ := fz
      simp only [World.frozen?, hg]
      simp only [Bool.and_eq_false_iff, decide_eq_false_iff_not]
      omega
    have hst : (store ((⟨g, o, none⟩ : Addr).add i) v).run P w = .ok () (w.setRow g (cur.setIfInBounds (o + i) v)) := by
      rw [hadd, run_store P w _ v _ (h1 v (by simp)), hcell]
      simp [hfro, setCell_eq_setRow w g (o + i) cur t fz v hg]
    have ih := run_storeCells_free (P := P) g o t fz rest (i + 1) (cur.setIfInBounds (o + i) v) (w.setRow g (cur.setIfInBounds (o + i) v)) (setRow_heap w g cur _ t _ hg) (by simpa using hf) (by simp at hl ⊢; omega) (fun x hx => h1 x (by simp [hx]))
    simp only [storeCells, Sem.run_bind, hst, Result.andThen_ok, ih, setRow_setRow]
    congr 3
    have e := list_seg_step cur.toList (o + i) v rest (by simp at hl ⊢; omega)
    simpa [Array.toList_setIfInBounds, Nat.add_assoc] using e

section
variable {α : Type} {enc : α → Array Value} {c : Nat}
def flatR (enc : α → Array Value) (xs : List α) : List Value := xs.flatMap fun x => (enc x).toList
theorem flatR_length [he : Enc enc c] : ∀ xs : List α, (flatR enc xs).length = xs.length * c
  | [] => by simp [flatR]
  | x :: xs => by
    have := flatR_length xs
    simp only [flatR, List.flatMap_cons, List.length_append] at this ⊢
    rw [this, Array.length_toList, he.size, List.length_cons, Nat.add_mul]; omega
theorem flatR_get [he : Enc enc c] : ∀ (xs : List α) (i : Nat) (x : α), xs[i]? = some x → ∀ j, j < c → (flatR enc xs)[i * c + j]? = (enc x)[j]?
  | [], i, x, h, _, _ => by simp at h
  | y :: xs, 0, x, h, j, hj => by
    obtain rfl : y = x := by simpa using h
    simp only [flatR, List.flatMap_cons, Nat.zero_mul, Nat.zero_add]
    rw [List.getElem?_append_left (by rw [Array.length_toList, he.size]; exact hj)]; simp
  | y :: xs, i + 1, x, h, j, hj => by
    have := flatR_get xs i x (by simpa using h) j hj
    simp only [flatR, List.flatMap_cons] at this ⊢
    rw [List.getElem?_append_right (by rw [Array.length_toList, he.size, Nat.add_mul]; omega), Array.length_toList, he.size]
    rw [← this]; congr 1; rw [Nat.add_mul]; omega
theorem flatR_div (hc : 0 < c) [he : Enc enc c] {xs : List α} {k : Nat} {v : Value} (h : (flatR enc xs)[k]? = some v) : ∃ x, xs[k / c]? = some x ∧ (enc x)[k % c]? = some v := by
  have hk : k < xs.length * c := by
    have := (List.getElem?_eq_some_iff.1 h).1
    rwa [flatR_length] at this
  have hd : k / c < xs.length := Nat.div_lt_of_lt_mul (by rwa [Nat.mul_comm])
  refine ⟨xs[k / c], by simp [hd], ?_⟩
  rw [← flatR_get xs (k / c) xs[k / c] (by simp [hd]) (k % c) (Nat.mod_lt _ hc), ← h]
  congr 1; rw [Nat.mul_comm]; exact Nat.div_add_mod k c
theorem flatR_one [he : Enc enc c] (xs : List α) : ∀ u ∈ flatR enc xs, u.oneCell' = true := fun u hu => by
  obtain ⟨x, _, hx⟩ := List.mem_flatMap.1 hu
  exact (Array.all_eq_true_iff_forall_mem.1 (he.one x)) u (by simpa using hx)

theorem rows_of {h : Nat → Option Obj} {s : Sv} {xs : List α} {cs : Array Value} {T : TypeId} {fz : Nat × Nat} (ok : s.Ok) (hl : s.len = xs.length) (hb : h s.b = some (.cells cs T fz))
    (hc : ∀ i x, xs[i]? = some x → ∀ j, j < c → cs[s.o + i * c + j]? = (enc x)[j]?) : Lies enc c h s xs :=
  ⟨ok, hl, fun i x hi j hj => by unfold cellH; rw [hb]; exact hc i x hi j hj⟩

theorem src_rows {P : Program} {tx e' : TypeId} (hk : P.underlying tx = some (.slice e')) (hc : 0 < c) [he : Enc enc c] {w : World} {s : Sv} {xs : List α} (r : Lies enc c (hp w) s xs) : Src P c tx s.val xs.length (flatR enc xs) w := by
  cases hn : s.nil with
  | true =>
    have : xs = [] := by have := (r.ok.nil hn).1; rw [r.len] at this; exact List.length_eq_zero_iff.1 this
    subst this
    rw [Sv.val_nil hn]
    exact Src.ofNil w hk 0
  | false =>
    rw [Sv.val_some hn, r.len]
    refine Src.ofSlice w hk _ _ _ _ (flatR_length xs) (fun j u hu => ?_) (flatR_one xs)
    obtain ⟨x, hx, hu'⟩ := flatR_div hc hu
    have hsp := r.ok.sp (by have h1 := Nat.lt_of_le_of_lt (Nat.zero_le _) (List.getElem?_eq_some_iff.1 hx).1; have := r.len; have := r.ok.le; omega)
    rw [hsp, Addr.add_none, cell_hp, ← hu', ← r.row _ x hx (j % c) (Nat.mod_lt _ hc)]
    congr 1
    have := Nat.div_add_mod j c
    rw [Nat.mul_comm] at this; omega

theorem append_own {P : Program} {t tx ty e : TypeId} {by' : Nat} (ht : SlT P t e c by') (hc : 0 < c) [he : Enc enc c] {w0 w : World} {L : List Ent} {i : Nat} {s : Sv} {xs ys : List α} {x : Value}
    (hw : Mem w0 L w) (hi : L[i]? = some (own enc c s xs)) (hs : Src P c tx x ys.length (flatR enc ys) w) (hb : (xs.length + ys.length) * by' ≤ 140737488355328) (h63 : xs.length + ys.length ≤ 140737488355328) :
    ∃ s' w', (Builtin.append_ #[t, tx] ty #[s.val, x]).run P w = .ok (Sv.val s') w' ∧ s'.Ok ∧ s'.len = (xs ++ ys).length ∧ Mem w0 (L.set i (own enc c s' (xs ++ ys))) w' := by
  obtain ⟨r, hrow⟩ := hw.get hi
  obtain ⟨i', z, hi1, hi2, hi3, hi4, hzc⟩ := ht.info
  subst hi3 hi4
  have hlen := r.len
  have hle := r.ok.le
  have grow : s.cap < s.len + ys.length → ∀ (base : Option Addr), s.val = .slice base s.len s.cap → (Builtin.firstCells i'.size s.len (.slice base s.len s.cap)).run P w.drew = .ok (flatR enc xs).toArray w.drew →
      ∃ s' w', (Builtin.append_ #[t, tx] ty #[s.val, x]).run P w = .ok (Sv.val s') w' ∧ s'.Ok ∧ s'.len = (xs ++ ys).length ∧ Mem w0 (L.set i (own enc i'.size s' (xs ++ ys))) w' := by
    intro hg base hv hold
    have hcap := nextslicecap_le hg
    have hfit : Builtin.nextslicecap (s.len + ys.length) s.cap * i'.bytes ≤ 281474976710656 := by
      have h2 : Builtin.nextslicecap (s.len + ys.length) s.cap * i'.bytes ≤ 2 * (s.len + ys.length) * i'.bytes := Nat.mul_le_mul_right _ hcap
      rw [Nat.mul_assoc, hlen] at h2
      rw [hlen]; omega
    have hr := run_append_grow_src w t tx ty e i' z ht.und hi1 hi2 base s.len s.cap (flatR enc xs) hold x ys.length (flatR enc ys) hs hg (by omega) hfit
    have hcge := grownCap_ge w (s.len + ys.length) s.cap e
    generalize grownCap w (s.len + ys.length) s.cap e = C at hr hcge
    refine ⟨⟨false, w.heap.size, 0, s.len + ys.length, C, none⟩, _, by rw [hv, hr]; rfl, ⟨(fun h => by cases h), hcge, by simp only; omega, fun _ => rfl⟩, by simp [hlen], hw.swap (At.lt hi) ?_⟩
    have hm := (Mem.init w).drew.alloc ((flatR enc xs ++ flatR enc ys).toArray ++ Builtin.zeroCells z.cells (C - (s.len + ys.length))) e
    refine ⟨hm.below, fun q hq => ?_, fun q hq k hk => ?_, by simp⟩
    · obtain rfl := List.mem_singleton.1 hq
      have hblk : hp (w.drew.alloc (.cells ((flatR enc xs ++ flatR enc ys).toArray ++ Builtin.zeroCells z.cells (C - (s.len + ys.length))) e)) w.heap.size = some (.cells ((flatR enc xs ++ flatR enc ys).toArray ++ Builtin.zeroCells z.cells (C - (s.len + ys.length))) e (0, 0)) := Below.heap_new w.drew _
      have hfl : flatR enc xs ++ flatR enc ys = flatR enc (xs ++ ys) := by simp [flatR]
      rw [hfl] at hblk
      rw [hfl]
      have hsz : (flatR enc (xs ++ ys)).length = (xs.length + ys.length) * i'.size := by rw [flatR_length]; simp
      refine ⟨rows_of (enc := enc) (c := i'.size) (xs := xs ++ ys) ⟨(fun h => by cases h), hcge, by simp only; omega, fun _ => rfl⟩ (by simp [hlen]) hblk fun k y hy j hj => ?_, fun _ => ⟨rfl, _, _, _, hblk, ?_, free_00 _, fun _ => rfl⟩⟩
      · have hg' := flatR_get (enc := enc) (xs ++ ys) k y hy j hj
        have hlt : k * i'.size + j < (flatR enc (xs ++ ys)).length := by
          rw [hsz]
          have h1 := (List.getElem?_eq_some_iff.1 hy).1
          rw [List.length_append] at h1
          calc k * i'.size + j < k * i'.size + i'.size := by omega
            _ = (k + 1) * i'.size := by rw [Nat.add_mul]; omega
            _ ≤ _ := Nat.mul_le_mul_right _ h1
        simp only [Nat.zero_add]
        rw [← hg', Array.getElem?_append_left (by simpa using hlt)]; simp
      · have h3 := size_zeroCells z.cells (C - (s.len + ys.length))
        rw [hzc] at h3
        simp only [Array.size_append, List.size_toArray, h3, hsz, Nat.zero_add]
        rw [← Nat.add_mul, hlen]
        refine Nat.mul_le_mul_right _ ?_
        omega
    · obtain rfl := List.mem_singleton.1 hq
      obtain rfl : k = w.heap.size := hk.2
      simp
  cases hn : s.nil with
  | true =>
    have h0 := r.ok.nil hn
    have hx0 : xs = [] := by rw [hlen] at h0; exact List.length_eq_zero_iff.1 h0.1
    subst hx0
    by_cases hy : ys.length = 0
    · have hy0 : ys = [] := List.length_eq_zero_iff.1 hy
      subst hy0
      refine ⟨s, w, ?_, r.ok, by simpa using hlen, ?_⟩
      · rw [Sv.val_nil hn]
        have hcl := hs.cells
        simp only [List.length_nil] at hcl
        rcases hs.kind with ⟨e', hk⟩ | hk <;> simp [Builtin.append_, run_underlying ht.und, run_underlying hk, sizeOf, typeInfo, hi1, hs.len, hcl]
      · have : L.set i (own enc i'.size s ([] ++ [])) = L := by
          rw [List.append_nil]
          refine List.ext_getElem? fun k => ?_
          rw [List.getElem?_set]
          by_cases hk : i = k
          · subst hk; rw [if_pos rfl, hi, if_pos (At.lt hi)]
          · rw [if_neg hk]
        rw [this]; exact hw
    · refine grow (by omega) .none (by rw [Sv.val_nil hn, h0.1, h0.2]) ?_
      rw [h0.1, h0.2]
      exact run_firstCells_none w.drew _ _ _ _
  | false =>
    obtain ⟨hsp, cs, T, fz, hblk, hsz, hfz, hf0⟩ := hrow hn
    by_cases hroom : s.len + ys.length ≤ s.cap
    · have hmul : (s.len + ys.length) * i'.size ≤ s.cap * i'.size := Nat.mul_le_mul_right _ hroom
      have hfl : (flatR enc ys).length = ys.length * i'.size := flatR_length ys
      have hfit : s.o + s.len * i'.size + (flatR enc ys).toArray.size ≤ cs.size := by
        rw [List.size_toArray, hfl]; rw [Nat.add_mul] at hmul; omega
      have hst := run_storeCells_free (P := P) s.b (s.o + s.len * i'.size) T fz (flatR enc ys) 0 cs w hblk hfz (by simpa using hfit) hs.one
      have hst' : (storeCells ⟨s.b, s.o + s.len * i'.size, none⟩ (flatR enc ys)).run P w = .ok () (w.setRow s.b (over cs (s.o + s.len * i'.size) (flatR enc ys).toArray)) := by
        simpa [over] using hst
      refine ⟨{ s with len := s.len + ys.length }, w.setRow s.b (over cs (s.o + s.len * i'.size) (flatR enc ys).toArray), ?_, ⟨(fun h => by rw [hn] at h; cases h), hroom, by simp only; omega, r.ok.sp⟩, by simp [hlen], ?_⟩
      · have hv' : ({ s with len := s.len + ys.length } : Sv).val = .slice (some ⟨s.b, s.o, s.sp⟩) (s.len + ys.length) s.cap := Sv.val_some (s := { s with len := s.len + ys.length }) hn
        rw [Sv.val_some hn, hv', hsp]
        rcases hs.kind with ⟨e', hk⟩ | hk <;> simp [Builtin.append_, run_underlying ht.und, run_underlying hk, sizeOf, typeInfo, hi1, hs.len, hroom, hs.cells, Addr.add_none, hst']
      · have hb' : hp (w.setRow s.b (over cs (s.o + s.len * i'.size) (flatR enc ys).toArray)) s.b = some (.cells (over cs (s.o + s.len * i'.size) (flatR enc ys).toArray) T fz) := setRow_heap w s.b cs _ T fz hblk
        refine hw.change hi (fun k hk => hk) (fun k hk => ?_) (by simp [World.setRow]) ⟨rfl, rfl, rfl⟩ ⟨rows_of ⟨(fun h => by rw [hn] at h; cases h), hroom, by simp only; omega, r.ok.sp⟩ (by simp [hlen]) hb' fun k y hy j hj => ?_, fun _ => ⟨hsp, _, _, _, hb', ?_, by rw [over_size hfit]; exact hfz, hf0⟩⟩
        · exact setRow_other w s.b k _ (fun e => hk ⟨hn, e⟩)
        · rw [cells_over hfit]
          by_cases hk : k < xs.length
          · rw [if_neg, ← r.row k y (by rw [List.getElem?_append_left hk] at hy; exact hy) j hj]
            · unfold cellH; rw [hblk]
            · have : (k + 1) * i'.size ≤ s.len * i'.size := Nat.mul_le_mul_right _ (by omega)
              rw [Nat.add_mul] at this
              intro h; have := h.1; simp only at this; omega
          · rw [List.getElem?_append_right (by omega)] at hy
            have hg' := flatR_get (enc := enc) ys (k - xs.length) y hy j hj
            have hk2 : s.len * i'.size + (k - xs.length) * i'.size = k * i'.size := by rw [← Nat.add_mul]; congr 1; omega
            have hlt : (k - xs.length + 1) * i'.size ≤ ys.length * i'.size := Nat.mul_le_mul_right _ (by have := (List.getElem?_eq_some_iff.1 hy).1; omega)
            rw [Nat.add_mul] at hlt
            rw [if_pos ⟨by simp only; omega, by rw [List.size_toArray, hfl]; simp only; omega⟩, ← hg']
            simp only [List.getElem?_toArray]
            congr 1; omega
        · rw [over_size hfit]; exact hsz
    · refine grow (by omega) _ (by rw [Sv.val_some hn, hsp]) ?_
      refine run_firstCells_some w.drew _ _ _ _ _ _ (by rw [flatR_length, hlen]) fun j u hu => ?_
      obtain ⟨y, hy, hu'⟩ := flatR_div hc hu
      have := r.row _ y hy (j % i'.size) (Nat.mod_lt _ hc)
      rw [hu'] at this
      rw [Addr.add_none]
      show w.cell? _ = _
      rw [cell_hp, ← this]
      congr 1
      have h9 := Nat.div_add_mod j i'.size
      rw [Nat.mul_comm] at h9; omega

theorem foldl_over (off : Nat) : ∀ (vs : List Value) (k : Nat) (cs : Array Value), off + k + vs.length ≤ cs.size →
    (vs.zipIdx k).foldl (fun cs (p : Value × Nat) => cs.setIfInBounds (off + p.2) p.1) cs = (cs.toList.take (off + k) ++ vs ++ cs.toList.drop (off + k + vs.length)).toArray
  | [], k, cs, _ => by simp
  | v :: vs, k, cs, h => by
    simp only [List.zipIdx_cons, List.foldl_cons, List.length_cons] at h ⊢
    rw [foldl_over off vs (k + 1) _ (by simp; omega)]
    apply Array.ext'
    have e1 : (cs.setIfInBounds (off + k) v).toList = cs.toList.set (off + k) v := by simp
    rw [e1]
    have hlt : off + k < cs.toList.length := by simp; omega
    have e2 : (cs.toList.set (off + k) v).take (off + (k + 1)) = cs.toList.take (off + k) ++ [v] := by
      rw [← Nat.add_assoc, List.take_add_one, List.take_set_of_le (Nat.le_refl _), List.getElem?_set_self hlt]
      rfl
    have e3 : (cs.toList.set (off + k) v).drop (off + (k + 1) + vs.length) = cs.toList.drop (off + k + (vs.length + 1)) := by
      rw [List.drop_set_of_lt (by omega)]; congr 1; omega
    rw [e2, e3]; simp

def idx (vals : List Value) (i : Nat) : List (Nat × Value) := (vals.zipIdx i).map fun p => (p.2, p.1)

theorem fill_rows [he : Enc enc c] : ∀ (xs : List α) (vals : List Value) (i : Nat) (cs : Array Value), vals.map Value.cells = xs.map enc → i * c + xs.length * c ≤ cs.size →
    Instr.fill (fun i => some (i * c, c)) cs (idx vals i) = some (cs.toList.take (i * c) ++ flatR enc xs ++ cs.toList.drop (i * c + xs.length * c)).toArray
  | [], [], i, cs, _, _ => by simp [idx, Instr.fill, flatR]
  | [], _ :: _, _, _, h, _ => by simp at h
  | _ :: _, [], _, _, h, _ => by simp at h
  | x :: xs, v :: vals, i, cs, h, hs => by
    simp only [List.map_cons, List.cons.injEq] at h
    obtain ⟨h1, h2⟩ := h
    have hsz : v.cells.size = c := by rw [h1]; exact he.size x
    rw [List.length_cons, Nat.add_mul, Nat.one_mul] at hs
    simp only [idx, List.zipIdx_cons, List.map_cons, Instr.fill, hsz]
    rw [if_neg (by simp; omega)]
    have ef : v.cells.zipIdx.foldl (fun cs (p : Value × Nat) => cs.setIfInBounds (i * c + p.2) p.1) cs = (cs.toList.take (i * c) ++ v.cells.toList ++ cs.toList.drop (i * c + c)).toArray := by
      have := foldl_over (i * c) v.cells.toList 0 cs (by simp; omega)
      simp only [Nat.add_zero] at this
      rw [← Array.foldl_toList, Array.toList_zipIdx, this]
      simp [hsz]
    have ef' : (v.cells.zipIdx.foldl (fun cs (x : Value × Nat) => match x with | (c', j) => cs.setIfInBounds (i * c + j) c') cs) = (cs.toList.take (i * c) ++ v.cells.toList ++ cs.toList.drop (i * c + c)).toArray := ef
    rw [ef']
    have hl1 : (cs.toList.take (i * c) ++ v.cells.toList).length = (i + 1) * c := by simp [hsz, Nat.add_mul]; omega
    have := fill_rows xs vals (i + 1) (cs.toList.take (i * c) ++ v.cells.toList ++ cs.toList.drop (i * c + c)).toArray h2 (by simp [hsz, Nat.add_mul]; omega)
    unfold idx at this
    rw [this]
    congr 1
    apply Array.ext'

    rw [List.take_left' hl1, ← List.drop_drop (j := (i + 1) * c) (i := xs.length * c), List.drop_left' hl1]
    simp only [flatR, List.flatMap_cons, h1, List.append_assoc, List.append_cancel_left_eq]
    rw [List.drop_drop, List.length_cons, show i * c + c + xs.length * c = i * c + (xs.length + 1) * c by rw [Nat.add_mul]; omega]
end

section
variable {P : Program} {N : Fra} {w0 : World} {env : Env} {L : List Ent} {l : List Oper} {Q : Exit → Act → World → Prop} {rest : List Oper} {d : Option Tmp} {ty : TypeId} {ps : String} {af : Array Edge}
variable {α : Type} {enc : α → Array Value} {c : Nat} {s : Sv} {xs ys : List α}

class Owns (L : List Ent) (s : Sv) {α : outParam Type} (enc : outParam (α → Array Value)) (c : outParam Nat) (xs : outParam (List α)) (i : outParam Nat) : Prop where
  h : L[i]? = some (own enc c s xs)
instance (priority := high) Owns.here {L : List Ent} : Owns (own enc c s xs :: L) s enc c xs 0 := ⟨rfl⟩
instance Owns.there {L : List Ent} {e : Ent} {i : Nat} [q : Owns L s enc c xs i] : Owns (e :: L) s enc c xs (i + 1) := ⟨by simpa using q.h⟩
theorem Owns.holds {i : Nat} (q : Owns L s enc c xs i) : Holds w0 L enc c s xs := fun _ hw => (hw.get q.h).1

theorem Mem.nilOwn {w : World} (enc : α → Array Value) (c : Nat) (h : Mem w0 L w) : Mem w0 (own enc c Sv.none [] :: L) w :=
  h.call (E := [own enc c Sv.none []]) ⟨Below.refl _ _, fun e he => by
    obtain rfl := List.mem_singleton.1 he
    exact ⟨Lies.nil enc c _, (fun h => by cases h)⟩, fun e he k hk => by
    obtain rfl := List.mem_singleton.1 he
    exact absurd hk.1 (by simp [Sv.none]), by simp⟩

theorem sq_append {t tx e : TypeId} {x y : Operand} {yv : Value} {by' i : Nat} [ht : SlT P t e c by'] [he : Enc enc c] (hx : ev env x = some s.val) (hy : ev env y = some yv) [q : Owns L s enc c xs i] (hc : 0 < c)
    (hs : ∀ w, Mem w0 L w → Src P c tx yv ys.length (flatR enc ys) w) (hb : (xs.length + ys.length) * by' ≤ 140737488355328) (h63 : xs.length + ys.length ≤ 140737488355328) {L' : Sv → List Ent} [hu : ∀ s', Upd L i (own enc c s' (xs ++ ys)) (L' s')]
    (hk : ∀ s' : Sv, s'.Ok → s'.len = (xs ++ ys).length → Sq P N w0 l Q rest (putE env d s'.val) (L' s')) (hd : dstOk N d = true := by rfl) :
    Sq P N w0 l Q (⟨d, .call { callee := .builtin .append, args := #[x, y], argTypes := #[t, tx] }, ty, ps, af, none⟩ :: rest) env L :=
  sq_run rfl hd fun a w ha hw => by
    obtain ⟨s', w', h1, h2, h3, h4⟩ := append_own (ty := ty) ht hc hw q.h (hs w hw) hb h63
    refine ⟨s'.val, w', L' s', ?_, by rw [← (hu s').h]; exact h4, hk s' h2 h3⟩
    simp [execOp, ha.ev hx, ha.ev hy, resolve, invoke, builtin, h1, Result.andThen]

theorem mem_new {w : World} {b : Nat} {cs : Array Value} {e : TypeId} (hb : b = w.heap.size) (n cap : Nat) (hn : n = xs.length) (hle : n ≤ cap) (h63 : n ≤ 140737488355328) (hsz : cap * c ≤ cs.size) (hc : ∀ i x, xs[i]? = some x → ∀ j, j < c → cs[i * c + j]? = (enc x)[j]?) :
    Mem w [own enc c ⟨false, b, 0, n, cap, none⟩ xs] (w.alloc (.cells cs e)) := by
  subst hb
  have hm := (Mem.init w).alloc cs e
  have hblk : hp (w.alloc (.cells cs e)) w.heap.size = some (.cells cs e (0, 0)) := Below.heap_new w _
  refine ⟨hm.below, fun q hq => ?_, fun q hq k hk => ?_, by simp⟩
  · obtain rfl := List.mem_singleton.1 hq
    exact ⟨rows_of ⟨(fun h => by cases h), hle, h63, fun _ => rfl⟩ hn hblk (by simpa using hc), fun _ => ⟨rfl, _, _, _, hblk, by simpa using hsz, free_00 _, fun _ => rfl⟩⟩
  · obtain rfl := List.mem_singleton.1 hq
    obtain rfl : k = w.heap.size := hk.2
    simp

theorem len24 {n c : Nat} (h0 : 0 < n * c) (h : n * c ≤ 16777216) : n ≤ 140737488355328 := by
  have : n * 1 ≤ n * c := Nat.mul_le_mul_left _ (by rcases Nat.eq_zero_or_pos c with rfl | h'; · simp at h0
                                                    · exact h')
  omega

theorem run_buildSlice {t e : TypeId} {by' : Nat} (ht : SlT P t e c by') [he : Enc enc c] {vals : List Value} (hv : vals.map Value.cells = xs.map enc) (hc : 0 < xs.length * c) (h24 : xs.length * c ≤ 16777216) (w : World) :
    (Instr.buildSlice t xs.length (idx vals 0).toArray).run P w = .ok (.slice (some ⟨w.heap.size, 0, none⟩) xs.length xs.length) (w.alloc (.cells (flatR enc xs).toArray e)) := by
  obtain ⟨i', z, hi1, hi2, hi3, hi4, hzc⟩ := ht.info
  subst hi3
  have hf := fill_rows (enc := enc) (c := i'.size) xs vals 0 ((Array.range (xs.length * i'.size)).map (z.cells[· % z.cells.size]!)) hv (by simp)
  have hdrop : ((Array.range (xs.length * i'.size)).map (z.cells[· % z.cells.size]!)).toList.drop (0 * i'.size + xs.length * i'.size) = [] := by simp
  rw [hdrop] at hf
  simp only [Nat.zero_mul, List.take_zero, List.nil_append, List.append_nil] at hf
  have n1 : ¬ xs.length * i'.size > 2 ^ 24 := by omega
  have n2 : ¬ xs.length * i'.size = 0 := by omega
  simp [Instr.buildSlice, run_underlying ht.und, sizeOf, typeInfo, zeroValue, hi1, hi2, n1, n2, hf, newRow, newObj, Sem.run, Result.andThen]

theorem sq_buildSlice {t e : TypeId} {by' n : Nat} [ht : SlT P t e c by'] [he : Enc enc c] {ops : List (Nat × Operand)} {vals : List Value} (xs : List α) (hx : evp env ops = some (idx vals 0)) (hv : vals.map Value.cells = xs.map enc) (hn : xs.length = n) (hc : 0 < n * c) (h24 : n * c ≤ 16777216)
    (hk : ∀ b, Sq P N w0 l Q rest (putE env d (Sv.val ⟨false, b, 0, n, n, none⟩)) (own enc c ⟨false, b, 0, n, n, none⟩ xs :: L)) (hd : dstOk N d = true := by rfl) :
    Sq P N w0 l Q (⟨d, .buildSlice t n ops.toArray, ty, ps, af, none⟩ :: rest) env L :=
  sq_run rfl hd fun a w ha hw => by
    subst hn
    have e1 : (ops.toArray.map fun (p : Nat × Operand) => match p with | (i, x) => (i, a.eval x)) = (idx vals 0).toArray := by
      rw [← ha.evp hx]; simp
    refine ⟨_, _, _, ?_, hw.call (mem_new (enc := enc) (c := c) (xs := xs) (cs := (flatR enc xs).toArray) (e := e) rfl xs.length xs.length rfl (Nat.le_refl _) (len24 hc h24) (by simp [flatR_length]) fun i x hx j hj => by rw [← flatR_get (enc := enc) xs i x hx j hj]; simp), hk _⟩
    simp only [execOp, e1, Sem.run_bind, run_buildSlice ht hv hc h24 w, Result.andThen, Sem.run_pure]; rfl
theorem fr_buildSlice {Lq : List Ent} {n' j : Nat} {js : List Nat} {t e : TypeId} {by' n : Nat} {ops : List (Nat × Operand)} (hj : l[j]? = some ⟨d, .buildSlice t n ops.toArray, ty, ps, af, none⟩) [ht : SlT P t e c by'] [he : Enc enc c] {vals : List Value} (xs : List α) (hx : evp env ops = some (idx vals 0)) (hv : vals.map Value.cells = xs.map enc) (hn : xs.length = n) (hc : 0 < n * c) (h24 : n * c ≤ 16777216)
    (hk : ∀ b, Fr P N w0 Lq l n' Q js (putE env d (Sv.val ⟨false, b, 0, n, n, none⟩)) (own enc c ⟨false, b, 0, n, n, none⟩ xs :: L)) (hd : dstOk N d = true := by rfl) :
    Fr P N w0 Lq l n' Q (j :: js) env L :=
  fr_run hj rfl hd fun a w ha hw => by
    subst hn
    have e1 : (ops.toArray.map fun (p : Nat × Operand) => match p with | (i, x) => (i, a.eval x)) = (idx vals 0).toArray := by
      rw [← ha.evp hx]; simp
    refine ⟨_, _, [own enc c ⟨false, w.heap.size, 0, xs.length, xs.length, none⟩ xs], ?_, mem_new (enc := enc) (c := c) (xs := xs) (cs := (flatR enc xs).toArray) (e := e) rfl xs.length xs.length rfl (Nat.le_refl _) (len24 hc h24) (by simp [flatR_length]) fun i x hx j hj => by rw [← flatR_get (enc := enc) xs i x hx j hj]; simp, hk _⟩
    simp only [execOp, e1, Sem.run_bind, run_buildSlice ht hv hc h24 w, Result.andThen, Sem.run_pure]; rfl

theorem madeCells_get {zc : Array Value} (m n : Nat) (h : zc.size = c) (i j : Nat) (hi : i < n) (hj : j < c) (hm : n * c ≤ m) : (madeCells zc m)[i * c + j]? = zc[j]? := by
  have hlt : i * c + j < m := by
    have : (i + 1) * c ≤ n * c := Nat.mul_le_mul_right _ hi
    rw [Nat.add_mul] at this; omega
  have e1 : (i * c + j) % zc.size = j := by rw [h, Nat.mul_comm, Nat.mul_add_mod]; exact Nat.mod_eq_of_lt hj
  have hz : j < zc.size := by omega
  simp [madeCells, hlt, e1, hz]

theorem run_makeS {t e : TypeId} {by' n cap : Nat} {z : Value} (ht : SlT P t e c by') (hz : ZeroT P e z) {k k' : IntKind} (x0 : α) (h0 : enc x0 = z.cells) (hle : n ≤ cap) (hb : by' * cap ≤ 281474976710656) (h63 : cap ≤ 140737488355328) (w : World) :
    ∃ w', (Instr.makeSlice t (.int k n) (.int k' cap)).run P w = .ok (Sv.val ⟨false, w.heap.size, 0, n, cap, none⟩) w' ∧ Mem w [own enc c ⟨false, w.heap.size, 0, n, cap, none⟩ (List.replicate n x0)] w' := by
  obtain ⟨i', z', hi1, hi2, hi3, hi4, hzc⟩ := ht.info
  obtain rfl : z' = z := by
    have := hz.zero
    rw [hi1, Option.map_some, hi2] at this; exact Option.some.inj (Option.some.inj this)
  subst hi3 hi4
  have hb' : (i'.bytes : Int) * (cap : Int) ≤ 281474976710656 := by
    have h : ((i'.bytes * cap : Nat) : Int) ≤ 281474976710656 := by omega
    rwa [Int.natCast_mul] at h
  have hr := run_make (P := P) w t e i' _ ht.und hi1 hi2 k k' n cap (by omega) (by omega) hb' (by omega)
  simp only [Int.toNat_natCast] at hr
  refine ⟨_, hr, mem_new rfl n cap (by simp) hle (by omega) (by simp [size_madeCells]) fun i x hx j hj => ?_⟩
  have hi : i < n := by
    have := (List.getElem?_eq_some_iff.1 hx).1
    simpa using this
  obtain rfl : x0 = x := by rw [List.getElem?_replicate, if_pos hi] at hx; exact Option.some.inj hx
  rw [h0]
  exact madeCells_get _ n hzc i j hi hj (Nat.mul_le_mul_right _ hle)
theorem sq_makeS {t e : TypeId} {by' n cap : Nat} {z : Value} {x y : Operand} {k k' : IntKind} {ix iy : Int} [ht : SlT P t e c by'] [hz : ZeroT P e z] (x0 : α) (h0 : enc x0 = z.cells) (hx : ev env x = some (.int k ix)) (hy : ev env y = some (.int k' iy)) (ex : ix = (n : Int)) (ey : iy = (cap : Int)) (hle : n ≤ cap) (hb : by' * cap ≤ 281474976710656) (h63 : cap ≤ 140737488355328)
    (hk : ∀ b, Sq P N w0 l Q rest (putE env d (Sv.val ⟨false, b, 0, n, cap, none⟩)) (own enc c ⟨false, b, 0, n, cap, none⟩ (List.replicate n x0) :: L)) (hd : dstOk N d = true := by rfl) :
    Sq P N w0 l Q (⟨d, .makeSlice t x y, ty, ps, af, none⟩ :: rest) env L :=
  sq_run rfl hd fun a w ha hw => by
    subst ex ey
    obtain ⟨w', h1, h2⟩ := run_makeS ht hz (k := k) (k' := k') (n := n) x0 h0 hle hb h63 w
    exact ⟨_, w', _, by simp only [execOp, ha.ev hx, ha.ev hy, Sem.run_bind, h1, Result.andThen, Sem.run_pure], hw.call h2, hk _⟩

theorem mem_store {w : World} {L' : List Ent} {i k j : Nat} {a a' : α} {vs : Array Value} [he : Enc enc c] (hw : Mem w0 L w) (q : Owns L s enc c xs i) (ha : xs[k]? = some a) (hv : vs.all (·.oneCell') = true) (hj : j + vs.size ≤ c) (he' : over (enc a) j vs = enc a') (hu : Upd L i (own enc c s (xs.set k a')) L') :
    ∃ w', (storeCells ⟨s.b, s.o + k * c + j, none⟩ vs.toList).run P w = .ok () w' ∧ Mem w0 L' w' := by
  obtain ⟨r, hrow⟩ := hw.get q.h
  have hk : k < xs.length := (List.getElem?_eq_some_iff.1 ha).1
  have hn := r.some hk
  have hle := r.ok.le
  have hlen := r.len
  obtain ⟨hsp, cs, T, fz, hblk, hsz, hfz, hf0⟩ := hrow hn
  have hmul : (k + 1) * c ≤ s.cap * c := Nat.mul_le_mul_right _ (by omega)
  have hmul' := hmul
  rw [Nat.add_mul] at hmul
  have hfit : s.o + k * c + j + vs.size ≤ cs.size := by omega
  have hst := run_storeCells_free (P := P) s.b (s.o + k * c + j) T fz vs.toList 0 cs w hblk hfz (by simpa using hfit) (fun v hv' => (Array.all_eq_true_iff_forall_mem.1 hv) v (by simpa using hv'))
  refine ⟨w.setRow s.b (over cs (s.o + k * c + j) vs), by simpa [over] using hst, ?_⟩
  have hb' : hp (w.setRow s.b (over cs (s.o + k * c + j) vs)) s.b = some (.cells (over cs (s.o + k * c + j) vs) T fz) := setRow_heap w s.b cs _ T fz hblk
  rw [← hu.h]
  refine hw.change q.h (fun k hk => hk) (fun x hx => setRow_other w s.b x _ (fun e => hx ⟨hn, e⟩)) (by simp [World.setRow]) ⟨rfl, rfl, rfl⟩ ⟨rows_of r.ok (by simpa using hlen) hb' fun x y hy p hp' => ?_, fun _ => ⟨hsp, _, _, _, hb', by rw [over_size hfit]; exact hsz, by rw [over_size hfit]; exact hfz, hf0⟩⟩
  rw [cells_over hfit]
  by_cases hxk : x = k
  · subst hxk
    obtain rfl : a' = y := by rw [List.getElem?_set_self hk] at hy; exact Option.some.inj hy
    rw [← he', cells_over (by rw [he.size]; exact hj)]
    by_cases h1 : j ≤ p ∧ p < j + vs.size
    · rw [if_pos h1, if_pos (by omega)]; congr 1; omega
    · rw [if_neg h1, if_neg (by omega), ← r.row x a ha p hp']
      unfold cellH; rw [hblk]
  · rw [List.getElem?_set_ne (by omega)] at hy
    rw [if_neg, ← r.row x y hy p hp']
    · unfold cellH; rw [hblk]
    · intro h
      rcases Nat.lt_or_gt_of_ne hxk with h' | h'
      · have : (x + 1) * c ≤ k * c := Nat.mul_le_mul_right _ h'
        rw [Nat.add_mul] at this; omega
      · have : (k + 1) * c ≤ x * c := Nat.mul_le_mul_right _ h'
        rw [Nat.add_mul] at this; omega
theorem sq_storeS {t : TypeId} {x y : Operand} {i k j n p : Nat} {a a' : α} {v : Value} (sz : (P.info? t).map (·.size) = some n) [he : Enc enc c] (hx : ev env x = some (.pointer (some ⟨s.b, p, none⟩))) (hy : ev env y = some v) [q : Owns L s enc c xs i] (hp' : p = s.o + k * c + j)
    (ha : xs[k]? = some a) (hv : v.cells.all (·.oneCell') = true) (hn : v.cells.size = n) (hj : j + n ≤ c) (he' : over (enc a) j v.cells = enc a') {L' : List Ent} [hu : Upd L i (own enc c s (xs.set k a')) L'] (hk : Sq P N w0 l Q rest env L') :
    Sq P N w0 l Q (⟨none, .store t x y, ty, ps, af, none⟩ :: rest) env L :=
  sq_run_skip rfl rfl fun aa w haa hw => by
    subst hp' hn
    obtain ⟨w', h1, h2⟩ := mem_store (P := P) hw q ha hv hj he' hu
    refine ⟨w', _, ?_, h2, hk⟩
    simp only [execOp, haa.ev hx, haa.ev hy, Instr.storeAt, Instr.sureAddr, storeVar, Sem.run_bind, Sem.run_pure, Result.andThen, run_sizeOf' w sz]
    simp [h1]

theorem sq_callG {X : Type} {val : X → Value} {L' : X → List Ent} {pr : X → Prop} {f : FuncId} {xs : List Operand} {ts : Array TypeId} {vs : List Value} [hf : IsFn P f] (hx : evl env xs = some vs)
    (hc : ∀ w, Mem w0 L w → Calls P f vs.toArray w fun e w' => ∃ x, e = .returned (val x) ∧ pr x ∧ Mem w0 (L' x) w') (hk : ∀ x, pr x → Sq P N w0 l Q rest (putE env d (val x)) (L' x)) (hd : dstOk N d = true := by rfl) :
    Sq P N w0 l Q (⟨d, .call { callee := .value (.func f), args := xs.toArray, argTypes := ts }, ty, ps, af, none⟩ :: rest) env L := fun a w ha hw => by
  unfold wpList
  rw [if_pos (wanted_none rfl)]
  refine .inl ?_
  unfold Oper.wp
  rw [run_call hf w rfl, ha.evl hx]
  exact (hc w hw).mono fun e w' ⟨x, he, hp, hm⟩ => by subst he; exact hk x hp _ _ (ha.put hd _) hm
theorem calls_in {N : Nat} {fn : Func} {R : Ending → World → Prop} {f : FuncId} {c : Code} {args : List Value} {w : World} (hf : P.funcs[f]? = some fn) (hb : fn.body = some c) (hN : fn.ntmps = N) (hle : Nat.ble args.length N = true) (hw : Mem w0 L w)
    (h : Cw P ⟨N, [], none⟩ w0 (endPost P fn R) c (args.zipIdx.map fun p => (p.2, p.1)) L) : Calls P f args.toArray w R :=
  calls_of_end hf hb (h _ _ (by rw [hN]; exact Rep.enter args N (Nat.le_of_ble_eq_true hle)) hw)
theorem holds_blk {b n i : Nat} {cs : Array Value} {T : TypeId} [hi : Has L b cs T i] [he : Enc enc c] (hcs : cs = (flatR enc xs).toArray) (hn : xs.length = n) (h63 : n ≤ 140737488355328 := by decide) : Holds w0 L enc c ⟨false, b, 0, n, n, none⟩ xs := fun w hw => by
  have hb := hw.block hi.h
  exact rows_of ⟨(fun h => by cases h), Nat.le_refl _, h63, fun _ => rfl⟩ hn.symm hb fun k x hx j hj => by
    rw [← flatR_get (enc := enc) xs k x hx j hj, hcs]; simp

theorem sq_own0 (enc : α → Array Value) (c : Nat) (h : Sq P N w0 l Q rest env (own enc c Sv.none [] :: L)) : Sq P N w0 l Q rest env L := fun a w ha hw => h a w ha (hw.nilOwn enc c)

/-! Results. -/
def rvRun (tmps : Array Value) (r : ResultVar) : Sem Value := match r with
  | .tmp t => pure (tmps.getD t undef)
  | .cell c t => do loadVar t (← asAddr (tmps.getD c undef))
theorem results_eq (fn : Func) (tmps : Array Value) : results fn tmps = (do let vs ← fn.results.mapM (rvRun tmps); pure (if h : vs.size = 1 then vs[0] else .tuple vs)) := by
  have : (fun r => rvRun tmps r) = (fun | .tmp t => pure (tmps.getD t undef) | .cell a t => do loadVar t (← asAddr (tmps.getD a undef)) : ResultVar → Sem Value) := by
    funext r; cases r <;> rfl
  show _ = (do let vs ← fn.results.mapM (fun r => rvRun tmps r); pure (if h : vs.size = 1 then vs[0] else .tuple vs))
  rw [this]; rfl
def RV (P : Program) (N : Fra) (w0 : World) (env : Env) (L : List Ent) (r : ResultVar) (v : Value) : Prop := ∀ a w, Rep N env a → Mem w0 L w → (rvRun a.tmps r).run P w = .ok v w
theorem rv_tmp {t : Nat} {v : Value} (hv : look env t = some v) : RV P N w0 env L (.tmp t) v := fun a w ha _ => by
  have := ha.get _ _ hv
  simp [rvRun, this]
theorem rv_agg {t b i n : Nat} {T T' : TypeId} {cs : Array Value} (hv : look env t = some (.pointer (some ⟨b, 0, none⟩))) [ht : RowT P T n] [hi : Has L b cs T' i] [hn : SizeIs cs n] : RV P N w0 env L (.cell t T) (.agg cs) := fun a w ha hw => by
  have h1 := ha.get _ _ hv
  have h2 : (loadVar T ⟨b, 0, none⟩).run P w = .ok (.agg cs) w := run_loadVar_agg w ht hn.h fun j _ => by rw [Addr.add_none, hw.cell hi.h, Nat.zero_add]
  simp [rvRun, h1, asAddr, h2]
theorem rv_one {t b i : Nat} {T T' : TypeId} {cs : Array Value} {v : Value} (hv : look env t = some (.pointer (some ⟨b, 0, none⟩))) [ht : OneT P T] [hi : Has L b cs T' i] (hc : cs[0]? = some v) : RV P N w0 env L (.cell t T) v := fun a w ha hw => by
  have h1 := ha.get _ _ hv
  have h2 : (loadVar T ⟨b, 0, none⟩).run P w = .ok v w := run_loadVar_one w ht (by rw [hw.cell hi.h]; exact hc)
  simp [rvRun, h1, asAddr, h2]
variable {fn : Func} {r1 r2 r3 : ResultVar} {v1 v2 v3 : Value}
theorem mapM_2 {A B : Type} (f : A → Sem B) (x y : A) : (#[x, y] : Array A).mapM f = (do let a ← f x; let b ← f y; pure #[a, b]) := by simp
theorem mapM_3 {A B : Type} (f : A → Sem B) (x y z : A) : (#[x, y, z] : Array A).mapM f = (do let a ← f x; let b ← f y; let c ← f z; pure #[a, b, c]) := by simp
theorem res_1 (hf : fn.results = #[r1]) (h1 : RV P N w0 env L r1 v1) : ∀ a w, Rep N env a → Mem w0 L w → (results fn a.tmps).run P w = .ok v1 w := fun a w ha hw => by
  have e1 := h1 a w ha hw
  rw [results_eq, hf]
  simp [e1]
theorem res_2 (hf : fn.results = #[r1, r2]) (h1 : RV P N w0 env L r1 v1) (h2 : RV P N w0 env L r2 v2) : ∀ a w, Rep N env a → Mem w0 L w → (results fn a.tmps).run P w = .ok (.tuple #[v1, v2]) w := fun a w ha hw => by
  have e1 := h1 a w ha hw
  have e2 := h2 a w ha hw
  rw [results_eq, hf, mapM_2]
  simp [e1, e2]
theorem res_3 (hf : fn.results = #[r1, r2, r3]) (h1 : RV P N w0 env L r1 v1) (h2 : RV P N w0 env L r2 v2) (h3 : RV P N w0 env L r3 v3) : ∀ a w, Rep N env a → Mem w0 L w → (results fn a.tmps).run P w = .ok (.tuple #[v1, v2, v3]) w := fun a w ha hw => by
  have e1 := h1 a w ha hw
  have e2 := h2 a w ha hw
  have e3 := h3 a w ha hw
  rw [results_eq, hf, mapM_3]
  simp [e1, e2, e3]
end
end Go.Eng

/- Bytes: as cells, in slices, as numbers. -/
namespace Go.Eng

def benc (b : UInt8) : Array Value := #[.int .u8 b.toNat]
instance : Enc benc 1 := ⟨fun _ => rfl, fun _ => by simp [benc, Value.oneCell']⟩
instance (b : UInt8) : CellAt (benc b) 0 (.int .u8 b.toNat) := ⟨rfl⟩
def senc (s : Sv) : Array Value := #[s.val]
instance : Enc senc 1 := ⟨fun _ => rfl, fun s => by simp [senc, Sv.one]⟩
structure Lies2 (h : Nat → Option Obj) (s : Sv) (ss : List Sv) (xss : List (List UInt8)) : Prop where
  out : Lies senc 1 h s ss
  len : ss.length = xss.length
  row : ∀ (i : Nat) t, ss[i]? = some t → ∃ xs, xss[i]? = some xs ∧ Lies benc 1 h t xs

def b8 (n : Nat) : UInt8 := UInt8.ofNat n
theorem b8_toNat (n : Nat) : (b8 n).toNat = n % 256 := by simp [b8]
theorem b8_mod (n : Nat) : b8 (n % 256) = b8 n := by
  apply UInt8.toNat_inj.1; simp [b8_toNat]
theorem wrap_b8 (n : Nat) : IntKind.u8.wrap (n : Int) = ((b8 n).toNat : Int) := by
  rw [b8_toNat]; simp [IntKind.wrap, IntKind.bits, IntKind.signed]
theorem b8_of (b : UInt8) : b8 b.toNat = b := by
  apply UInt8.toNat_inj.1; rw [b8_toNat]; have := b.toNat_lt; omega

def be (n : Nat) : Nat → List UInt8
  | 0 => []
  | k + 1 => b8 (n / 256 ^ k) :: be n k
theorem be_length (n : Nat) : ∀ k, (be n k).length = k
  | 0 => rfl
  | k + 1 => by simp [be, be_length n k]

def de (l : List UInt8) : Nat := l.foldl (fun a b => a * 256 + b.toNat) 0
theorem de_succ {xs : List UInt8} {i : Nat} {b : UInt8} (h : xs[i]? = some b) : de (xs.take (i + 1)) = de (xs.take i) * 256 + b.toNat := by
  rw [List.take_add_one, h]; simp [de]
theorem de_lt (xs : List UInt8) : ∀ i, i ≤ xs.length → de (xs.take i) < 256 ^ i
  | 0, _ => by simp [de]
  | i + 1, h => by
    have := de_lt xs i (by omega)
    rw [de_succ (b := xs[i]) (by simp), Nat.pow_succ]
    have := xs[i].toNat_lt; omega
section
variable {P : Program} {N : Fra} {w0 : World} {env : Env} {L : List Ent} {d : Option Tmp} {ty : TypeId} {ps : String} {af : Array Edge} {gd : Option (Nat × Bool)}
variable {x y : Operand} {k k' : IntKind} {p q : Nat} {t u s : TypeId}
theorem ry_quon {a b : Int} (hx : ev env x = some (.int k a)) (hy : ev env y = some (.int k b)) (ea : a = p) (eb : b = q) (hp : p < 2 ^ nb k) (hq : 0 < q) :
    Ry P N w0 env L ⟨d, .binOp .quo t x y u, ty, ps, af, gd⟩ (.int k ((p / q : Nat) : Int)) := ry_int hx hy (by
  subst ea eb
  rw [intOp, if_neg (by omega), ← Int.ofNat_tdiv, wrap_nat (Nat.lt_of_le_of_lt (Nat.div_le_self _ _) hp)])
theorem ry_remn {a b : Int} (hx : ev env x = some (.int k a)) (hy : ev env y = some (.int k b)) (ea : a = p) (eb : b = q) (hq : 0 < q) :
    Ry P N w0 env L ⟨d, .binOp .rem t x y u, ty, ps, af, gd⟩ (.int k ((p % q : Nat) : Int)) := ry_int hx hy (by
  subst ea eb
  rw [intOp, if_neg (by omega), ← Int.ofNat_tmod])
theorem ry_muln {a b : Int} (hx : ev env x = some (.int k a)) (hy : ev env y = some (.int k b)) (ea : a = p) (eb : b = q) (h : p * q < 2 ^ nb k) :
    Ry P N w0 env L ⟨d, .binOp .mul t x y u, ty, ps, af, gd⟩ (.int k ((p * q : Nat) : Int)) := ry_int hx hy (by
  subst ea eb
  rw [intOp, ← Int.natCast_mul, wrap_nat h])
theorem ry_conv8 {n : Nat} {a : Int} [hs : IntT P s k'] [ht : IntT P t .u8] (hx : ev env x = some (.int k' a)) (ea : a = n) :
    Ry P N w0 env L ⟨d, .convert s t x, ty, ps, af, gd⟩ (.int .u8 (b8 n).toNat) := ry_conv hx (by subst ea; exact wrap_b8 n)
theorem ry_bstr {e : TypeId} {sv : Sv} {xs : List UInt8} (hs : P.underlying s = some (.slice e)) (he : P.underlying e = some (.int .u8)) (hd : P.underlying t = some .string) (hx : ev env x = some sv.val) (hR : Holds w0 L benc 1 sv xs) :
    Ry P N w0 env L ⟨d, .convert s t x, ty, ps, af, gd⟩ (.string ⟨xs.toArray⟩) := fun a w ha hw => by
  have r := hR w hw
  have hr : (convert s t sv.val).run P w = .ok (.string ⟨xs.toArray⟩) w := by
    cases hn : sv.nil with
    | true =>
      have : xs = [] := by have := (r.ok.nil hn).1; rw [r.len] at this; exact List.length_eq_zero_iff.1 this
      subst this
      rw [Sv.val_nil hn, run_convert_bytes_string w s t e none 0 0 hs he hd]
      rfl
    | false =>
      rw [Sv.val_some hn, r.len]
      refine run_convert_bytes_back w s t e _ _ xs hs he hd fun j hj => ?_
      rw [r.ok.sp (by have := r.len; have := r.ok.le; omega)]
      rw [Addr.add_none, cell_hp]
      have := r.row j xs[j] (by simp) 0 (by decide)
      simp only [Nat.mul_one, Nat.add_zero] at this
      rw [this]; rfl
  simp only [execOp, ha.ev hx, Sem.run_bind, hr, Result.andThen, Sem.run_pure]
theorem ry_streql {a b : ByteArray} (hx : ev env x = some (.string a)) (hy : ev env y = some (.string b)) :
    Ry P N w0 env L ⟨d, .binOp .eql t x y u, ty, ps, af, gd⟩ (.bool (a.toList == b.toList)) := fun aa w ha _ => by
  have h2 : (eqGuard BinOp.eql t x y (.string a) (.string b)).run P w = .ok () w := rfl
  simp only [execOp, ha.ev hx, ha.ev hy, Sem.run_bind, h2, Result.andThen_ok, binOp_string_eql, Sem.run_pure]
theorem ry_strneq {a b : ByteArray} (hx : ev env x = some (.string a)) (hy : ev env y = some (.string b)) :
    Ry P N w0 env L ⟨d, .binOp .neq t x y u, ty, ps, af, gd⟩ (.bool (!(a.toList == b.toList))) := fun aa w ha _ => by
  have h2 : (eqGuard BinOp.neq t x y (.string a) (.string b)).run P w = .ok () w := rfl
  simp only [execOp, ha.ev hx, ha.ev hy, Sem.run_bind, h2, Result.andThen_ok, binOp_string_neq, Sem.run_pure]
end
section
variable {P : Program} {N : Fra} {w0 : World} {env : Env} {L : List Ent} {l : List Oper} {Q : Exit → Act → World → Prop} {rest : List Oper} {d : Option Tmp} {ty : TypeId} {ps : String} {af : Array Edge}
open Go.RowKit in
theorem run_strb {s t e : TypeId} (hs : P.underlying s = some .string) (hd : P.underlying t = some (.slice e)) (he : P.underlying e = some (.int .u8)) (xs : List UInt8) (hl : xs.length ≤ 140737488355328) (w : World) :
    ∃ sv w', (convert s t (.string ⟨xs.toArray⟩)).run P w = .ok (Sv.val sv) w' ∧ Mem w [own benc 1 sv xs] w' := by
  have hr := run_bytes_of_string (P := P) w s t e ⟨xs.toArray⟩ hs hd he
  have hge := grownCap_ge w xs.length 0 e
  generalize hC : grownCap w (ByteArray.size ⟨xs.toArray⟩) 0 e = C at hr
  have hbs : (⟨xs.toArray⟩ : ByteArray).size = xs.length := by simp [ByteArray.size]
  have hC' : xs.length ≤ C := by rw [← hC, hbs]; exact hge
  rw [hbs] at hr
  refine ⟨⟨false, w.heap.size, 0, xs.length, C, none⟩, _, hr, ?_⟩
  have hsz : (bytesRow ⟨xs.toArray⟩ C).size = C := by rw [bytesRow, hbs]; simp; omega
  generalize hcs : bytesRow ⟨xs.toArray⟩ C = cs at hsz
  have hblk : hp (w.drew.alloc (.cells cs e (cs.size, cs.size + 1))) w.heap.size = some (.cells cs e (cs.size, cs.size + 1)) := Below.heap_new w.drew _
  refine ⟨((Below.refl _ _).drew).alloc (by simp) _, fun q hq => ?_, fun q hq k hk => ?_, by simp⟩
  · obtain rfl := List.mem_singleton.1 hq
    refine ⟨rows_of ⟨(fun h => by cases h), hC', hl, fun _ => rfl⟩ rfl hblk fun i x hx j hj => ?_, fun _ => ⟨rfl, _, _, _, hblk, by simp [hsz], fun j hj h => by have := h.1; simp at this; omega, fun h => by omega⟩⟩
    obtain rfl : j = 0 := by omega
    have hi : i < xs.length := (List.getElem?_eq_some_iff.1 hx).1
    have e1 : xs[i] = x := by simpa [hi] using hx
    simp only [Nat.zero_add, Nat.mul_one, Nat.add_zero]
    rw [← hcs, bytesRow, Array.getElem?_append_left (by simp; exact hi)]
    simp [benc, hi, e1]
  · obtain rfl := List.mem_singleton.1 hq
    obtain rfl : k = w.heap.size := hk.2
    simp
theorem sq_strb {s t e : TypeId} {x : Operand} {xs : List UInt8} (hs : P.underlying s = some .string) (hd : P.underlying t = some (.slice e)) (he : P.underlying e = some (.int .u8)) (hx : ev env x = some (.string ⟨xs.toArray⟩)) (hl : xs.length ≤ 140737488355328)
    (hk : ∀ sv, Sq P N w0 l Q rest (putE env d (Sv.val sv)) (own benc 1 sv xs :: L)) (hdd : dstOk N d = true := by rfl) :
    Sq P N w0 l Q (⟨d, .convert s t x, ty, ps, af, none⟩ :: rest) env L :=
  sq_run rfl hdd fun a w ha hw => by
    obtain ⟨sv, w', h1, h2⟩ := run_strb hs hd he xs hl w
    exact ⟨_, w', _, by simp only [execOp, ha.ev hx, Sem.run_bind, h1, Result.andThen, Sem.run_pure], hw.call h2, hk sv⟩
end

def hop16 (b c : UInt8) : UInt16 := UInt16.ofNat (b.toNat * 256 + c.toNat)
theorem hop16_toNat (b c : UInt8) : (hop16 b c).toNat = b.toNat * 256 + c.toNat := by
  have := b.toNat_lt; have := c.toNat_lt
  simp [hop16]; omega
theorem or_low (p q : Nat) (h : q < 256) : (p * 256) ||| q = p * 256 + q := by
  have := Nat.two_pow_add_eq_or_of_lt (i := 8) (b := q) (by simpa using h) p
  rw [show (2 ^ 8 * p) = p * 256 by rw [Nat.mul_comm]] at this
  exact this.symm
section
variable {P : Program} {N : Fra} {w0 : World} {env : Env} {L : List Ent} {d : Option Tmp} {ty : TypeId} {ps : String} {af : Array Edge} {gd : Option (Nat × Bool)} {x y : Operand} {k : IntKind} {t u : TypeId}
theorem ry_shl8 {b : UInt8} {k' : IntKind} (hx : ev env x = some (.int k b.toNat)) (hy : ev env y = some (.int k' 8)) (hk : k = .u16 ∨ k = .i64 := by decide) :
    Ry P N w0 env L ⟨d, .binOp .shl t x y u, ty, ps, af, gd⟩ (.int k ((b.toNat * 256 : Nat) : Int)) := by
  have h := ry_shl (P := P) (N := N) (w0 := w0) (L := L) (d := d) (ty := ty) (ps := ps) (af := af) (gd := gd) (t := t) (u := u) hx hy (by decide)
  have hb := b.toNat_lt
  have e : k.wrap ((b.toNat : Int) * 2 ^ min (Int.toNat 8) k.bits) = ((b.toNat * 256 : Nat) : Int) := by
    rcases hk with rfl | rfl <;> simp [IntKind.wrap, IntKind.bits, IntKind.signed] <;> omega
  rw [e] at h; exact h
theorem ry_or8 {b c : UInt8} (hx : ev env x = some (.int k ((b.toNat * 256 : Nat) : Int))) (hy : ev env y = some (.int k c.toNat)) (hk : k = .u16 ∨ k = .i64 := by decide) :
    Ry P N w0 env L ⟨d, .binOp .or t x y u, ty, ps, af, gd⟩ (.int k ((hop16 b c).toNat : Nat)) := by
  have hb := b.toNat_lt; have hc := c.toNat_lt
  rw [hop16_toNat, ← or_low _ _ hc]
  rcases hk with rfl | rfl
  · exact ry_bor hx hy rfl rfl (by simp only [nb]; omega) (by simp only [nb]; omega)
  · exact ry_bor hx hy rfl rfl (by simp only [nb]; omega) (by simp only [nb]; omega)
end
end Go.Eng

/- Values that reach memory: what they reach lies there, or is held alone. Contracts of functions, as classes. -/
namespace Go.Eng
open Go.RowKit

/-! Entries put together. -/
def Ent.emp : Ent := ⟨fun _ => False, fun _ => True, fun _ _ _ s => s⟩
def Ent.two (a b : Ent) : Ent := ⟨fun k => a.fp k ∨ b.fp k, fun h => a.sat h ∧ b.sat h ∧ ∀ k, a.fp k → ¬ b.fp k,
  fun h h' e s => ⟨a.loc h h' (fun k hk => e k (.inl hk)) s.1, b.loc h h' (fun k hk => e k (.inr hk)) s.2.1, s.2.2⟩⟩
def Ent.all : List Ent → Ent
  | [] => .emp
  | e :: r => .two e (.all r)

theorem Mem.emp_iff {w0 w : World} {L : List Ent} : Mem w0 (.emp :: L) w ↔ Mem w0 L w :=
  ⟨fun h => h.sub (List.sublist_cons_self _ _), fun h => ⟨h.below, fun e he => by
    rcases List.mem_cons.1 he with rfl | he
    · exact trivial
    · exact h.sat e he, fun e he k hk => by
    rcases List.mem_cons.1 he with rfl | he
    · exact hk.elim
    · exact h.dom e he k hk, List.pairwise_cons.2 ⟨fun _ _ _ hk => hk.elim, h.dis⟩⟩⟩
theorem Mem.two_iff {w0 w : World} {a b : Ent} {L : List Ent} : Mem w0 (.two a b :: L) w ↔ Mem w0 (a :: b :: L) w := by
  constructor
  · intro h
    have hs : (a.sat fun k => w.heap[k]?) ∧ (b.sat fun k => w.heap[k]?) ∧ ∀ k, a.fp k → ¬ b.fp k := h.sat (.two a b) (by simp)
    have hd := List.pairwise_cons.1 h.dis
    refine ⟨h.below, fun e he => ?_, fun e he k hk => ?_, ?_⟩
    · rcases List.mem_cons.1 he with rfl | he
      · exact hs.1
      · rcases List.mem_cons.1 he with rfl | he
        · exact hs.2.1
        · exact h.sat e (by simp [he])
    · rcases List.mem_cons.1 he with rfl | he
      · exact h.dom (.two e b) (by simp) k (.inl hk)
      · rcases List.mem_cons.1 he with rfl | he
        · exact h.dom (.two a e) (by simp) k (.inr hk)
        · exact h.dom e (by simp [he]) k hk
    · refine List.pairwise_cons.2 ⟨fun x hx k hk => ?_, List.pairwise_cons.2 ⟨fun x hx k hk => hd.1 x hx k (.inr hk), hd.2⟩⟩
      rcases List.mem_cons.1 hx with rfl | hx
      · exact hs.2.2 k hk
      · exact hd.1 x hx k (.inl hk)
  · intro h
    have hd := List.pairwise_cons.1 h.dis
    have hd2 := List.pairwise_cons.1 hd.2
    refine ⟨h.below, fun e he => ?_, fun e he k hk => ?_, List.pairwise_cons.2 ⟨fun x hx k hk => ?_, hd2.2⟩⟩
    · rcases List.mem_cons.1 he with rfl | he
      · exact ⟨h.sat a (by simp), h.sat b (by simp), fun k hk => hd.1 b (by simp) k hk⟩
      · exact h.sat e (by simp [he])
    · rcases List.mem_cons.1 he with rfl | he
      · rcases hk with hk | hk
        · exact h.dom a (by simp) k hk
        · exact h.dom b (by simp) k hk
      · exact h.dom e (by simp [he]) k hk
    · rcases hk with hk | hk
      · exact hd.1 x (by simp [hx]) k hk
      · exact hd2.1 x hx k hk
theorem Mem.head_congr {w0 w : World} {a : Ent} {L L' : List Ent} (h : Mem w0 (a :: L) w) (hl : ∀ w, Mem w0 L w → Mem w0 L' w) (hf : ∀ k, (∃ e ∈ L', e.fp k) → ∃ e ∈ L, e.fp k) : Mem w0 (a :: L') w := by
  have h' := hl w (h.sub (List.sublist_cons_self _ _))
  have hd := List.pairwise_cons.1 h.dis
  refine ⟨h.below, fun e he => ?_, fun e he k hk => ?_, List.pairwise_cons.2 ⟨fun x hx k hk hk' => ?_, h'.dis⟩⟩
  · rcases List.mem_cons.1 he with rfl | he
    · exact h.sat e (by simp)
    · exact h'.sat e he
  · rcases List.mem_cons.1 he with rfl | he
    · exact h.dom e (by simp) k hk
    · exact h'.dom e he k hk
  · obtain ⟨e, he, hk2⟩ := hf k ⟨x, hx, hk'⟩
    exact hd.1 e he k hk hk2
theorem Mem.all_iff {w0 w : World} : ∀ (es : List Ent) {L : List Ent}, Mem w0 (.all es :: L) w ↔ Mem w0 (es ++ L) w
  | [], _ => Mem.emp_iff
  | e :: r, L => by
    show Mem w0 (.two e (.all r) :: L) w ↔ _
    rw [Mem.two_iff]
    have sw : ∀ (a b : Ent) (K : List Ent), Mem w0 (a :: b :: K) w ↔ Mem w0 (b :: a :: K) w := fun a b K => ⟨fun h => h.perm (List.Perm.swap _ _ _), fun h => h.perm (List.Perm.swap _ _ _)⟩
    rw [sw, Mem.all_iff r]
    exact ⟨fun h => h.perm (List.perm_middle), fun h => h.perm (List.perm_middle).symm⟩

/-! Values that reach memory. -/
class Deep (τ : Type) where
  c : Nat
  cells : τ → Array Value
  size : ∀ x, (cells x).size = c
  one : ∀ x, (cells x).all (·.oneCell') = true
  good : (Nat → Option Obj) → τ → Prop
  ent : τ → Ent
  good_of : ∀ h x, (ent x).sat h → good h x
  mono : ∀ (w w' : World) x, good (hp w) x → Below w.heap.size w w' → good (hp w') x
instance Deep.enc {τ : Type} [Deep τ] : Enc (Deep.cells (τ := τ)) (Deep.c τ) := ⟨Deep.size, Deep.one⟩
@[reducible] def Deep.flat {τ : Type} (enc : τ → Array Value) (c : Nat) [he : Enc enc c] : Deep τ := ⟨c, enc, he.size, he.one, fun _ _ => True, fun _ => .emp, fun _ _ _ => trivial, fun _ _ _ _ _ => trivial⟩
structure Sl (τ : Type) where
  sv : Sv
  xs : List τ
theorem Ent.all_sat {h : Nat → Option Obj} : ∀ {es : List Ent}, (Ent.all es).sat h → ∀ e ∈ es, e.sat h
  | [], _, _, he => by cases he
  | _ :: _, hs, e, he => by
    rcases List.mem_cons.1 he with rfl | he
    · exact hs.1
    · exact Ent.all_sat hs.2.1 e he
instance Deep.slice {τ : Type} [d : Deep τ] : Deep (Sl τ) where
  c := 1
  cells a := senc a.sv
  size _ := rfl
  one a := Enc.one (enc := senc) (c := 1) a.sv
  good h a := Lies (Deep.cells (τ := τ)) (Deep.c τ) h a.sv a.xs ∧ ∀ x ∈ a.xs, d.good h x
  ent a := .two (own (Deep.cells (τ := τ)) (Deep.c τ) a.sv a.xs) (.all (a.xs.map d.ent))
  good_of h _ hs := ⟨hs.1.1, fun x hx => d.good_of h x (Ent.all_sat hs.2.1 _ (List.mem_map_of_mem hx))⟩
  mono w w' _ hg hb := ⟨hg.1.mono hb, fun x hx => d.mono w w' x (hg.2 x hx) hb⟩
theorem Mem.open_sl {τ : Type} [d : Deep τ] {w0 w : World} {L : List Ent} {a : Sl τ} : Mem w0 (Deep.ent a :: L) w ↔ Mem w0 (own (Deep.cells (τ := τ)) (Deep.c τ) a.sv a.xs :: a.xs.map d.ent ++ L) w := by
  show Mem w0 (.two _ (.all _) :: L) w ↔ _
  rw [Mem.two_iff]
  have sw : ∀ (a b : Ent) (K : List Ent), Mem w0 (a :: b :: K) w ↔ Mem w0 (b :: a :: K) w := fun a b K => ⟨fun h => h.perm (List.Perm.swap _ _ _), fun h => h.perm (List.Perm.swap _ _ _)⟩
  rw [sw, Mem.all_iff]
  exact ⟨fun h => h.perm (List.perm_middle), fun h => h.perm (List.perm_middle).symm⟩

/-! What is known of a slice or a value in all worlds that the frame's facts tell of. -/
section
variable {w0 : World} {L : List Ent} {τ : Type}
class Hd (w0 : World) (L : List Ent) (s : Sv) {α : outParam Type} (enc : outParam (α → Array Value)) (c : outParam Nat) (xs : outParam (List α)) : Prop where
  h : Holds w0 L enc c s xs
class Gv (w0 : World) (s : Sv) {α : outParam Type} (enc : outParam (α → Array Value)) (c : outParam Nat) (xs : outParam (List α)) : Prop where
  h : Lies enc c (hp w0) s xs
instance (priority := high) Hd.owned {s : Sv} {α : Type} {enc : α → Array Value} {c : Nat} {xs : List α} {i : Nat} [q : Owns L s enc c xs i] : Hd w0 L s enc c xs := ⟨q.holds⟩
instance Hd.given {s : Sv} {α : Type} {enc : α → Array Value} {c : Nat} {xs : List α} [q : Gv w0 s enc c xs] [Enc enc c] : Hd w0 L s enc c xs := ⟨holds_given q.h⟩
class Rg (lo hi n : Nat) : Prop where
  h : lo ≤ hi ∧ hi ≤ n
instance Hd.sub {s : Sv} {α : Type} {enc : α → Array Value} {c : Nat} {xs : List α} {lo hi : Nat} [q : Hd w0 L s enc c xs] [r : Rg lo hi xs.length] : Hd w0 L (s.sub c lo hi) enc c ((xs.drop lo).take (hi - lo)) := ⟨q.h.sub r.h.1 r.h.2⟩
class HdE (w0 : World) (L : List Ent) {α : Type} (enc : α → Array Value) (c : Nat) (s : Sv) (xs : outParam (List α)) : Prop where
  h : Holds w0 L enc c s xs
instance (priority := high) HdE.of {s : Sv} {α : Type} {enc : α → Array Value} {c : Nat} {xs : List α} [q : Hd w0 L s enc c xs] : HdE w0 L enc c s xs := ⟨q.h⟩
instance HdE.none {α : Type} {enc : α → Array Value} {c : Nat} : HdE w0 L enc c Sv.none [] := ⟨fun _ _ => Lies.nil enc c _⟩

class HdD (w0 : World) (L : List Ent) {τ : Type} [Deep τ] (a : τ) : Prop where
  h : ∀ w, Mem w0 L w → Deep.good (hp w) a
class GvD (w0 : World) {τ : Type} [Deep τ] (a : τ) : Prop where
  h : Deep.good (hp w0) a
class Mb {τ : Type} (x : τ) (a : outParam (Sl τ)) : Prop where
  h : x ∈ a.xs
instance HdD.given [Deep τ] {a : τ} [q : GvD w0 a] : HdD w0 L a := ⟨fun _ hw => Deep.mono w0 _ a q.h hw.below⟩
instance (priority := high) HdD.owned [Deep τ] {a : τ} {i : Nat} [q : At L (Deep.ent a) i] : HdD w0 L a := ⟨fun _ hw => Deep.good_of _ a (hw.get q.h)⟩
instance (priority := low) HdD.elem [Deep τ] {a : Sl τ} {x : τ} [q : HdD w0 L a] [m : Mb x a] : HdD w0 L x := ⟨fun w hw => (q.h w hw).2 x m.h⟩
class FlatT (τ : Type) [Deep τ] (enc : outParam (τ → Array Value)) (c : outParam Nat) : Prop where
  hc : Deep.c τ = c
  h : ∀ x : τ, Deep.cells x = enc x
instance (priority := low) Hd.deep [d : Deep τ] {enc : τ → Array Value} {c : Nat} [f : FlatT τ enc c] {a : Sl τ} [q : HdD w0 L a] : Hd w0 L a.sv enc c a.xs := ⟨fun w hw => by
  have h := (q.h w hw).1
  have e : Deep.cells (τ := τ) = enc := funext f.h
  rw [← e, ← f.hc]; exact h⟩
end

/-! Rules over what is known. -/
section
variable {P : Program} {N : Fra} {w0 : World} {env : Env} {L : List Ent} {d : Option Tmp} {ty : TypeId} {ps : String} {af : Array Edge} {gd : Option (Nat × Bool)}
variable {α : Type} {enc : α → Array Value} {c : Nat} {s : Sv} {xs : List α}
theorem ry_lenH {t e : TypeId} {x : Operand} {m : Nat} [ht : SliceT P t e m] (hx : ev env x = some s.val) [q : Hd w0 L s enc c xs] :
    Ry P N w0 env L ⟨d, .call { callee := .builtin .len, args := #[x], argTypes := #[t] }, ty, ps, af, gd⟩ (.int .i64 (xs.length : Nat)) := fun a w ha hw =>
  ry_lenS (P := P) (N := N) (w0 := w0) (L := L) (d := d) (ty := ty) (ps := ps) (af := af) (gd := gd) hx (q.h w hw).ok (q.h w hw).len a w ha hw
theorem ry_idxH {t e : TypeId} {x ix : Operand} {m : Nat} {k : IntKind} {j : Int} [ht : SliceT P t e m] (hx : ev env x = some s.val) (hj : ev env ix = some (.int k j)) [q : Hd w0 L s enc c xs] (i : Nat) (ej : j = (i : Int)) (h1 : i < xs.length) :
    Ry P N w0 env L ⟨d, .indexAddr t x ix, ty, ps, af, gd⟩ (.pointer (some ⟨s.b, s.o + i * m, none⟩)) := fun a w ha hw =>
  ry_idxSv (P := P) (N := N) (w0 := w0) (L := L) (d := d) (ty := ty) (ps := ps) (af := af) (gd := gd) hx hj ej (q.h w hw).ok (by rw [(q.h w hw).len]; exact h1) a w ha hw
theorem ry_elemH {t : TypeId} {x : Operand} {p : Nat} {a : α} [ht : RowT P t c] [he : Enc enc c] [q : Hd w0 L s enc c xs] (hx : ev env x = some (.pointer (some ⟨s.b, p, none⟩))) (i : Nat) (hi : xs[i]? = some a) (hp' : p = s.o + i * c) :
    Ry P N w0 env L ⟨d, .load t x, ty, ps, af, gd⟩ (.agg (enc a)) := ry_elem hx q.h hi hp'
theorem ry_elemcH {t : TypeId} {x : Operand} {p j : Nat} {a : α} {v : Value} [ht : OneT P t] [q : Hd w0 L s enc c xs] (hx : ev env x = some (.pointer (some ⟨s.b, p, none⟩))) (i : Nat) (hi : xs[i]? = some a) (hp' : p = s.o + i * c + j) (hj : j < c) [hv : CellAt (enc a) j v] :
    Ry P N w0 env L ⟨d, .load t x, ty, ps, af, gd⟩ v := ry_elemc hx q.h hi hp' hj hv.h
theorem ry_elempH {t : TypeId} {x : Operand} {p j n : Nat} {a : α} {sub : Array Value} [ht : RowT P t n] [q : Hd w0 L s enc c xs] (hx : ev env x = some (.pointer (some ⟨s.b, p, none⟩))) (i : Nat) (hi : xs[i]? = some a) (hp' : p = s.o + i * c + j) (hj : j + n ≤ c) [hs : PartAt (enc a) j n sub] :
    Ry P N w0 env L ⟨d, .load t x, ty, ps, af, gd⟩ (.agg sub) := ry_elemp hx q.h hi hp' hj
theorem ry_subH {t e : TypeId} {x lo hi : Operand} {k k' : IntKind} {il ih : Int} [ht : SliceT P t e c] (hx : ev env x = some s.val) (hl : ev env lo = some (.int k il)) (hh : ev env hi = some (.int k' ih)) [q : Hd w0 L s enc c xs] (l h : Nat) (el : il = (l : Int)) (eh : ih = (h : Int)) (h1 : l ≤ h) (h2 : h ≤ xs.length) :
    Ry P N w0 env L ⟨d, .slice t x (some lo) (some hi) none, ty, ps, af, gd⟩ (s.sub c l h).val := fun a w ha hw =>
  ry_subS (P := P) (N := N) (w0 := w0) (L := L) (d := d) (ty := ty) (ps := ps) (af := af) (gd := gd) hx hl hh el eh (q.h w hw).ok h1 (by have := (q.h w hw).len; have := (q.h w hw).ok.le; omega) a w ha hw
theorem ry_subH_hi {t e : TypeId} {x hi : Operand} {k' : IntKind} {ih : Int} [ht : SliceT P t e c] (hx : ev env x = some s.val) (hh : ev env hi = some (.int k' ih)) [q : Hd w0 L s enc c xs] (h : Nat) (eh : ih = (h : Int)) (h2 : h ≤ xs.length) :
    Ry P N w0 env L ⟨d, .slice t x none (some hi) none, ty, ps, af, gd⟩ (s.sub c 0 h).val := fun a w ha hw =>
  ry_subS_hi (P := P) (N := N) (w0 := w0) (L := L) (d := d) (ty := ty) (ps := ps) (af := af) (gd := gd) hx hh eh (q.h w hw).ok (by have := (q.h w hw).len; have := (q.h w hw).ok.le; omega) a w ha hw
theorem ry_subH_lo {t e : TypeId} {x lo : Operand} {k : IntKind} {il : Int} [ht : SliceT P t e c] (hx : ev env x = some s.val) (hl : ev env lo = some (.int k il)) [q : Hd w0 L s enc c xs] (l : Nat) (el : il = (l : Int)) (h1 : l ≤ xs.length) :
    Ry P N w0 env L ⟨d, .slice t x (some lo) none none, ty, ps, af, gd⟩ (s.sub c l xs.length).val := fun a w ha hw =>
  ry_subS_lo (P := P) (N := N) (w0 := w0) (L := L) (d := d) (ty := ty) (ps := ps) (af := af) (gd := gd) hx hl el (q.h w hw).ok (q.h w hw).len h1 a w ha hw
theorem ry_bstrH {t e tb : TypeId} {x : Operand} {xs : List UInt8} (hs : P.underlying tb = some (.slice e)) (he : P.underlying e = some (.int .u8)) (hd : P.underlying t = some .string) (hx : ev env x = some s.val) [q : Hd w0 L s benc 1 xs] :
    Ry P N w0 env L ⟨d, .convert tb t x, ty, ps, af, gd⟩ (.string ⟨xs.toArray⟩) := ry_bstr hs he hd hx q.h
theorem ry_conv_u8 {s t : TypeId} {x : Operand} {k : IntKind} {b : UInt8} [hs : IntT P s .u8] [ht : IntT P t k] (hx : ev env x = some (.int .u8 b.toNat)) (hk : 8 ≤ nb k := by decide) :
    Ry P N w0 env L ⟨d, .convert s t x, ty, ps, af, gd⟩ (.int k b.toNat) := ry_convn hx (Nat.lt_of_lt_of_le b.toNat_lt (Nat.pow_le_pow_right (by decide) hk))
theorem ry_conv_u16 {s t : TypeId} {x : Operand} {k : IntKind} {b : UInt16} [hs : IntT P s .u16] [ht : IntT P t k] (hx : ev env x = some (.int .u16 b.toNat)) (hk : 16 ≤ nb k := by decide) :
    Ry P N w0 env L ⟨d, .convert s t x, ty, ps, af, gd⟩ (.int k b.toNat) := ry_convn hx (Nat.lt_of_lt_of_le b.toNat_lt (Nat.pow_le_pow_right (by decide) hk))
end

/-! Contracts as classes. -/
section
variable {P : Program} {N : Fra} {w0 : World} {env : Env} {L : List Ent} {l : List Oper} {Q : Exit → Act → World → Prop} {rest : List Oper} {d : Option Tmp} {ty : TypeId} {ps : String} {af : Array Edge} {gd : Option (Nat × Bool)}
class FnQ (P : Program) (f : FuncId) (w0 : World) (L : List Ent) (vs : List Value) (v : outParam Value) (pre : outParam Prop) : Prop where
  h : pre → ∀ w, Mem w0 L w → Calls P f vs.toArray w fun e w' => e = .returned v ∧ Mem w [] w'
class FnC (P : Program) (f : FuncId) (w0 : World) (L : List Ent) (vs : List Value) (X : outParam Type) (val : outParam (X → Value)) (L' : outParam (X → List Ent)) (pr : outParam (X → Prop)) (pre : outParam Prop) : Prop where
  h : pre → ∀ w, Mem w0 L w → Calls P f vs.toArray w fun e w' => ∃ x, e = .returned (val x) ∧ pr x ∧ Mem w0 (L' x) w'
instance (priority := high) FnQ.pure {f : FuncId} {vs : List Value} {v : Value} [h : PureFn P f vs v] : FnQ P f w0 L vs v True := ⟨fun _ w _ => h.h w⟩
theorem yl_callC {f : FuncId} {xs : List Operand} {ts : Array TypeId} {vs : List Value} {v : Value} {pre : Prop} [hf : IsFn P f] (hx : evl env xs = some vs) [hc : FnQ P f w0 L vs v pre] (hp : pre) :
    Yl P N w0 env L ⟨d, .call { callee := .value (.func f), args := xs.toArray, argTypes := ts }, ty, ps, af, gd⟩ v := yl_call hx fun w hw => hc.h hp w hw
theorem sq_callC {X : Type} {val : X → Value} {L' : X → List Ent} {pr : X → Prop} {pre : Prop} {f : FuncId} {xs : List Operand} {ts : Array TypeId} {vs : List Value} [hf : IsFn P f] (hx : evl env xs = some vs)
    [hc : FnC P f w0 L vs X val L' pr pre] (hp : pre) (hk : ∀ x, pr x → Sq P N w0 l Q rest (putE env d (val x)) (L' x)) (hd : dstOk N d = true := by rfl) :
    Sq P N w0 l Q (⟨d, .call { callee := .value (.func f), args := xs.toArray, argTypes := ts }, ty, ps, af, none⟩ :: rest) env L := sq_callG hx (fun w hw => hc.h hp w hw) hk hd
theorem fr_callC {Lq : List Ent} {n j : Nat} {js : List Nat} {X : Type} {val : X → Value} {L' : X → List Ent} {pr : X → Prop} {pre : Prop} {f : FuncId} {xs : List Operand} {ts : Array TypeId} {vs : List Value} (hj : l[j]? = some ⟨d, .call { callee := .value (.func f), args := xs.toArray, argTypes := ts }, ty, ps, af, none⟩) [hf : IsFn P f] (hx : evl env xs = some vs)
    [hc : FnC P f w0 L vs X val L' pr pre] (hp : pre) (hL : ∀ x w, Mem w0 (L' x) w → Mem w0 Lq w) (hk : ∀ x, pr x → Fr P N w0 Lq l n Q js (putE env d (val x)) (L' x)) (hd : dstOk N d = true := by rfl) :
    Fr P N w0 Lq l n Q (j :: js) env L := fr_callG hj hx (fun w hw => hc.h hp w hw) hL hk hd
theorem sq_gcallC {X : Type} {val : X → Value} {L' : X → List Ent} {pr : X → Prop} {pre : Prop} {f : FuncId} {xs : List Operand} {ts : Array TypeId} {vs : List Value} {j t : Nat} {g : Bool} [hf : IsFn P f] (hj : (l[j]?).bind (·.dst) = some t) (hv : look env t = some (.bool g)) (hx : g = true → evl env xs = some vs)
    [hc : FnC P f w0 L vs X val L' pr pre] (hp : g = true → pre) (hk : ∀ x, (g = true → pr x) → Sq P N w0 l Q rest (putE env d (if g = true then val x else undef)) (if g = true then L' x else L)) (x0 : X) (hd : dstOk N d = true := by rfl) :
    Sq P N w0 l Q (⟨d, .call { callee := .value (.func f), args := xs.toArray, argTypes := ts }, ty, ps, af, some (j, true)⟩ :: rest) env L := by
  cases g
  · intro a w ha hw
    unfold wpList
    rw [wanted_some ha rfl hj hv]
    have := hk x0 (fun h => by cases h) (a.put d undef) w (by simpa using ha.put hd undef) (by simpa using hw)
    simpa using this
  · intro a w ha hw
    unfold wpList
    rw [wanted_some ha rfl hj hv]
    refine .inl ?_
    unfold Oper.wp
    rw [run_call hf w rfl, ha.evl (hx rfl)]
    exact (hc.h (hp rfl) w hw).mono fun e w' ⟨x, he, hpx, hm⟩ => by subst he; exact hk x (fun _ => hpx) _ _ (by simpa using ha.put hd _) (by simpa using hm)
end

/-! What is left of the memory told. -/
class DelI (L : List Ent) (i : Nat) (R : outParam (List Ent)) : Prop where
  h : L.eraseIdx i = R
instance DelI.here {e : Ent} {L : List Ent} : DelI (e :: L) 0 L := ⟨rfl⟩
instance DelI.there {e : Ent} {L R : List Ent} {i : Nat} [q : DelI L i R] : DelI (e :: L) (i + 1) (e :: R) := ⟨by simp [q.h]⟩
class Keep (L L' : List Ent) : Prop where
  h : ∃ R, L.Perm (L' ++ R)
instance (priority := high) Keep.nil {L : List Ent} : Keep L [] := ⟨⟨L, .refl _⟩⟩
instance (priority := high) Keep.same {L : List Ent} : Keep L L := ⟨⟨[], by simp⟩⟩
theorem perm_erase {e : Ent} : ∀ {L : List Ent} {i : Nat}, L[i]? = some e → L.Perm (e :: L.eraseIdx i)
  | [], i, h => by simp at h
  | x :: L, 0, h => by obtain rfl : x = e := by simpa using h
                       simp
  | x :: L, i + 1, h => by
    have := perm_erase (L := L) (i := i) (by simpa using h)
    rw [List.eraseIdx_cons_succ]
    exact (this.cons x).trans (.swap _ _ _)
instance Keep.cons {L L' R : List Ent} {e : Ent} {i : Nat} [a : At L e i] [b : DelI L i R] [k : Keep R L'] : Keep L (e :: L') := ⟨by
  obtain ⟨S, hS⟩ := k.h
  exact ⟨S, (perm_erase a.h).trans (by rw [b.h]; exact hS.cons e)⟩⟩
theorem Keep.mem {L L' : List Ent} [k : Keep L L'] {w0 w : World} (h : Mem w0 L w) : Mem w0 L' w := by
  obtain ⟨R, hR⟩ := k.h
  exact (h.perm hR).sub (List.sublist_append_left _ _)
theorem sq_mem {P : Program} {N : Fra} {w0 : World} {env : Env} {L : List Ent} {l : List Oper} {Q : Exit → Act → World → Prop} {rest : List Oper} (L' : List Ent) (h : ∀ w, Mem w0 L w → Mem w0 L' w) (hk : Sq P N w0 l Q rest env L') : Sq P N w0 l Q rest env L := fun a w ha hw => hk a w ha (h w hw)
theorem cw_mem {P : Program} {N : Fra} {w0 : World} {env : Env} {L : List Ent} {Q : Exit → Act → World → Prop} {c : Code} (L' : List Ent) (h : ∀ w, Mem w0 L w → Mem w0 L' w) (hk : Cw P N w0 Q c env L') : Cw P N w0 Q c env L := fun a w ha hw => hk a w ha (h w hw)

theorem cw_bd {P : Program} {N : Fra} {w0 : World} {env : Env} {L : List Ent} {Q : Exit → Act → World → Prop} {c : Code} (s : Sv) {α : Type} {enc : α → Array Value} {n : Nat} {xs : List α} [q : Hd w0 L s enc n xs] (hk : xs.length ≤ 140737488355328 → Cw P N w0 Q c env L) : Cw P N w0 Q c env L :=
  fun a w ha hw => hk (q.h w hw).bd a w ha hw
theorem sq_bd {P : Program} {N : Fra} {w0 : World} {env : Env} {L : List Ent} {l : List Oper} {Q : Exit → Act → World → Prop} {rest : List Oper} (s : Sv) {α : Type} {enc : α → Array Value} {n : Nat} {xs : List α} [q : Hd w0 L s enc n xs] (hk : xs.length ≤ 140737488355328 → Sq P N w0 l Q rest env L) : Sq P N w0 l Q rest env L :=
  fun a w ha hw => hk (q.h w hw).bd a w ha hw
theorem get_getD {α : Type} {xs : List α} {i : Nat} {d : α} (h : i < xs.length) : xs[i]? = some (xs.getD i d) := by
  simp [List.getD, h]
section
variable {P : Program} {N : Fra} {w0 : World} {env : Env} {L : List Ent} {l : List Oper} {Q : Exit → Act → World → Prop} {rest : List Oper} {d : Option Tmp} {ty : TypeId} {ps : String} {af : Array Edge} {gd : Option (Nat × Bool)}
variable {α : Type} {enc : α → Array Value} {c : Nat} {s : Sv} {xs : List α}
theorem ry_streqL {x y : Operand} {t u : TypeId} {a b : List UInt8} (hx : ev env x = some (.string ⟨a.toArray⟩)) (hy : ev env y = some (.string ⟨b.toArray⟩)) :
    Ry P N w0 env L ⟨d, .binOp .eql t x y u, ty, ps, af, gd⟩ (.bool (decide (a = b))) := by
  have e : ((⟨a.toArray⟩ : ByteArray).toList == (⟨b.toArray⟩ : ByteArray).toList) = decide (a = b) := by
    rw [ByteArray.toList_mk, ByteArray.toList_mk, Bool.eq_iff_iff]; simp
  rw [← e]; exact ry_streql hx hy
theorem ry_strneL {x y : Operand} {t u : TypeId} {a b : List UInt8} (hx : ev env x = some (.string ⟨a.toArray⟩)) (hy : ev env y = some (.string ⟨b.toArray⟩)) :
    Ry P N w0 env L ⟨d, .binOp .neq t x y u, ty, ps, af, gd⟩ (.bool (!decide (a = b))) := by
  have e : ((⟨a.toArray⟩ : ByteArray).toList == (⟨b.toArray⟩ : ByteArray).toList) = decide (a = b) := by
    rw [ByteArray.toList_mk, ByteArray.toList_mk, Bool.eq_iff_iff]; simp
  rw [← e]; exact ry_strneq hx hy
theorem ry_nilS {t e : TypeId} {x : Operand} {u : TypeId} (ht : P.underlying t = some (.slice e)) (hx : ev env x = some s.val) :
    Ry P N w0 env L ⟨d, .binOp .eql t x (.const (.slice none 0 0)) u, ty, ps, af, gd⟩ (.bool s.nil) := fun a w ha _ => by
  have h1 : (eqGuard BinOp.eql t x (.const (.slice none 0 0)) s.val (.slice none 0 0)).run P w = .ok () w := by
    unfold Sv.val; split <;> rfl
  have h3 : (Op.equal t s.val (.slice none 0 0)).run P w = .ok s.nil w := by
    unfold Sv.val
    split <;> rename_i hn <;> rw [run_equal_slice_nil w t e _ _ _ ht, hn] <;> rfl
  have h2 : (binOp .eql t s.val (.slice none 0 0)).run P w = .ok (.bool s.nil) w := by
    have : binOp .eql t s.val (.slice none 0 0) = (do pure (.bool (← Op.equal t s.val (.slice none 0 0)))) := by unfold Sv.val; split <;> rfl
    rw [this, Sem.run_bind, h3]; rfl
  simp only [execOp, ha.ev hx, show a.eval (.const (.slice none 0 0)) = .slice none 0 0 from rfl, Sem.run_bind, h1, Result.andThen_ok, h2, Sem.run_pure]
theorem ry_someS {t e : TypeId} {x : Operand} {u : TypeId} (ht : P.underlying t = some (.slice e)) (hx : ev env x = some s.val) :
    Ry P N w0 env L ⟨d, .binOp .neq t x (.const (.slice none 0 0)) u, ty, ps, af, gd⟩ (.bool (!s.nil)) := fun a w ha _ => by
  have h1 : (eqGuard BinOp.neq t x (.const (.slice none 0 0)) s.val (.slice none 0 0)).run P w = .ok () w := by
    unfold Sv.val; split <;> rfl
  have h3 : (Op.equal t s.val (.slice none 0 0)).run P w = .ok s.nil w := by
    unfold Sv.val
    split <;> rename_i hn <;> rw [run_equal_slice_nil w t e _ _ _ ht, hn] <;> rfl
  have h2 : (binOp .neq t s.val (.slice none 0 0)).run P w = .ok (.bool (!s.nil)) w := by
    have : binOp .neq t s.val (.slice none 0 0) = (do pure (.bool (!(← Op.equal t s.val (.slice none 0 0))))) := by unfold Sv.val; split <;> rfl
    rw [this, Sem.run_bind, h3]; rfl
  simp only [execOp, ha.ev hx, show a.eval (.const (.slice none 0 0)) = .slice none 0 0 from rfl, Sem.run_bind, h1, Result.andThen_ok, h2, Sem.run_pure]
theorem run_build0 {t e : TypeId} {by' : Nat} (ht : SlT P t e c by') (w : World) : (Instr.buildSlice t 0 #[]).run P w = .ok (.slice (some ⟨w.heap.size, 0, none⟩) 0 0) (w.alloc (.cells #[] e)) := by
  obtain ⟨i', z, hi1, hi2, hi3, hi4, hzc⟩ := ht.info
  have : (Array.range 0 : Array Nat) = #[] := by simp
  simp [Instr.buildSlice, run_underlying ht.und, sizeOf, typeInfo, hi1, Instr.fill, newRow, newObj, Sem.run, Result.andThen, this]
theorem sq_build0 {t e : TypeId} {by' : Nat} (enc : α → Array Value) [ht : SlT P t e c by'] [he : Enc enc c] (hk : ∀ b, Sq P N w0 l Q rest (putE env d (Sv.val ⟨false, b, 0, 0, 0, none⟩)) (own enc c ⟨false, b, 0, 0, 0, none⟩ [] :: L)) (hd : dstOk N d = true := by rfl) :
    Sq P N w0 l Q (⟨d, .buildSlice t 0 #[], ty, ps, af, none⟩ :: rest) env L :=
  sq_run rfl hd fun a w _ hw => by
    refine ⟨_, _, _, ?_, hw.call (mem_new (enc := enc) (c := c) (xs := []) (cs := #[]) (e := e) rfl 0 0 rfl (Nat.le_refl _) (Nat.zero_le _) (by simp) (by simp)), hk _⟩
    simp only [execOp, Sem.run_bind, List.map_toArray, List.map_nil, run_build0 ht w, Result.andThen, Sem.run_pure]; rfl
end
instance : Deep UInt8 := Deep.flat benc 1
instance : FlatT UInt8 benc 1 := ⟨rfl, fun _ => rfl⟩
def scells {τ : Type} (a : Sl τ) : Array Value := #[a.sv.val]
instance {τ : Type} : Enc (scells (τ := τ)) 1 := ⟨fun _ => rfl, fun a => Enc.one (enc := senc) (c := 1) a.sv⟩
instance {τ : Type} [Deep τ] : FlatT (Sl τ) scells 1 := ⟨rfl, fun _ => rfl⟩
instance {τ : Type} (a : Sl τ) : CellAt (scells a) 0 a.sv.val := ⟨rfl⟩
def lx {τ : Type} (a : Sl (Sl τ)) : List (List τ) := a.xs.map (·.xs)
theorem lx_length {τ : Type} (a : Sl (Sl τ)) : (lx a).length = a.xs.length := by simp [lx]

/-! Memory told in another way. -/
section
variable {L L' L1 L2 R R1 R2 : List Ent} {τ : Type}
def Tr (L L' : List Ent) : Prop := ∀ (K : List Ent) (w0 w : World), Mem w0 (L ++ K) w → Mem w0 (L' ++ K) w
theorem Tr.mem (h : Tr L L') {w0 w : World} (hw : Mem w0 L w) : Mem w0 L' w := by
  have := h [] w0 w (by simpa using hw); simpa using this
theorem Tr.refl : Tr L L := fun _ _ _ h => h
theorem Tr.trans (h : Tr L L1) (h' : Tr L1 L2) : Tr L L2 := fun K w0 w hw => h' K w0 w (h K w0 w hw)
theorem Tr.perm (h : L.Perm L') : Tr L L' := fun K _ _ hw => Mem.perm hw (h.append_right K)
theorem Tr.left (h : Tr L L') (X : List Ent) : Tr (X ++ L) (X ++ L') := fun K w0 w hw => by
  have p : ∀ Y : List Ent, (X ++ Y ++ K).Perm (Y ++ (X ++ K)) := fun Y => by
    rw [List.append_assoc, ← List.append_assoc Y]
    refine (List.perm_append_comm_assoc X Y K).trans ?_
    rw [List.append_assoc]
  exact (h (X ++ K) w0 w (hw.perm (p L))).perm (p L').symm
theorem Tr.right (h : Tr L L') (X : List Ent) : Tr (L ++ X) (L' ++ X) := fun K w0 w hw => by
  rw [List.append_assoc] at hw ⊢; exact h (X ++ K) w0 w hw
theorem Tr.cons (h : Tr L L') (x : Ent) : Tr (x :: L) (x :: L') := h.left [x]
theorem Tr.sub (h : L'.Sublist L) : Tr L L' := fun K _ _ hw => Mem.sub hw (h.append (.refl K))
theorem Tr.front {e : Ent} {i : Nat} (hi : L[i]? = some e) : Tr L (e :: L.eraseIdx i) := .perm (perm_erase hi)
theorem Tr.back {e : Ent} {i : Nat} (hi : L[i]? = some e) : Tr (e :: L.eraseIdx i) L := .perm (perm_erase hi).symm
theorem Tr.emp : Tr (.emp :: L) L := fun _ _ _ hw => Mem.emp_iff.1 hw
theorem Tr.emp' : Tr L (.emp :: L) := fun _ _ _ hw => Mem.emp_iff.2 hw
theorem Tr.two {a b : Ent} : Tr (.two a b :: L) (a :: b :: L) := fun _ _ _ hw => Mem.two_iff.1 hw
theorem Tr.two' {a b : Ent} : Tr (a :: b :: L) (.two a b :: L) := fun _ _ _ hw => Mem.two_iff.2 hw
theorem Tr.open_sl [d : Deep τ] {a : Sl τ} : Tr (Deep.ent a :: L) (own (Deep.cells (τ := τ)) (Deep.c τ) a.sv a.xs :: a.xs.map d.ent ++ L) := fun K w0 w hw => by
  have := Mem.open_sl.1 hw
  simpa using this
theorem Tr.shut_sl [d : Deep τ] {a : Sl τ} : Tr (own (Deep.cells (τ := τ)) (Deep.c τ) a.sv a.xs :: a.xs.map d.ent ++ L) (Deep.ent a :: L) := fun K w0 w hw => by
  refine Mem.open_sl.2 ?_
  simpa using hw
class Plain (τ : Type) [Deep τ] : Prop where
  h : ∀ x : τ, Deep.ent x = .emp
theorem Tr.plain [Deep τ] [p : Plain τ] : ∀ {xs : List τ}, Tr (xs.map Deep.ent ++ L) L
  | [] => .refl
  | x :: xs => by
    rw [List.map_cons, p.h]
    exact Tr.emp.trans Tr.plain
theorem Tr.plain' [Deep τ] [p : Plain τ] : ∀ {xs : List τ}, Tr L (xs.map Deep.ent ++ L)
  | [] => .refl
  | x :: xs => by
    rw [List.map_cons, p.h]
    exact (Tr.plain' (xs := xs)).trans Tr.emp'
theorem own_flat [Deep τ] {enc : τ → Array Value} {c : Nat} [f : FlatT τ enc c] (s : Sv) (xs : List τ) : own (Deep.cells (τ := τ)) (Deep.c τ) s xs = own enc c s xs := by
  have e : Deep.cells (τ := τ) = enc := funext f.h
  rw [e, f.hc]
theorem Tr.open_d [d : Deep τ] {enc : τ → Array Value} {c : Nat} [f : FlatT τ enc c] {a : Sl τ} : Tr (Deep.ent a :: L) (own enc c a.sv a.xs :: (a.xs.map d.ent ++ L)) := by
  rw [← own_flat]; exact Tr.open_sl
theorem Tr.shut_d [d : Deep τ] {enc : τ → Array Value} {c : Nat} [f : FlatT τ enc c] {a : Sl τ} : Tr (own enc c a.sv a.xs :: (a.xs.map d.ent ++ L)) (Deep.ent a :: L) := by
  rw [← own_flat]; exact Tr.shut_sl
theorem Tr.open_p [d : Deep τ] {enc : τ → Array Value} {c : Nat} [f : FlatT τ enc c] [Plain τ] {a : Sl τ} : Tr (Deep.ent a :: L) (own enc c a.sv a.xs :: L) := Tr.open_d.trans (Tr.plain.cons _)
theorem Tr.shut_p [d : Deep τ] {enc : τ → Array Value} {c : Nat} [f : FlatT τ enc c] [Plain τ] {a : Sl τ} : Tr (own enc c a.sv a.xs :: L) (Deep.ent a :: L) := (Tr.plain'.cons _).trans Tr.shut_d
theorem map_erase {α β : Type} (f : α → β) {xs : List α} {i : Nat} {x : α} (hx : xs[i]? = some x) : (xs.map f).Perm (f x :: (xs.eraseIdx i).map f) := by
  have h1 := (perm_erase' hx).map f
  exact h1
where perm_erase' {α : Type} : ∀ {L : List α} {i : Nat} {e : α}, L[i]? = some e → L.Perm (e :: L.eraseIdx i)
  | [], i, e, h => by simp at h
  | x :: L, 0, e, h => by obtain rfl : x = e := by simpa using h
                          simp
  | x :: L, i + 1, e, h => by
    have := perm_erase' (L := L) (i := i) (e := e) (by simpa using h)
    rw [List.eraseIdx_cons_succ]
    exact (this.cons x).trans (.swap _ _ _)
theorem Tr.pick [d : Deep τ] {enc : τ → Array Value} {c : Nat} [f : FlatT τ enc c] {a : Sl τ} {i : Nat} {x : τ} (hx : a.xs[i]? = some x) :
    Tr (Deep.ent a :: L) (own enc c a.sv a.xs :: Deep.ent x :: ((a.xs.eraseIdx i).map d.ent ++ L)) :=
  Tr.open_d.trans (Tr.cons (Tr.right (Tr.perm (map_erase d.ent hx)) L) _)
theorem erase_set {α : Type} : ∀ (xs : List α) (i : Nat) (y : α), (xs.set i y).eraseIdx i = xs.eraseIdx i
  | [], _, _ => by simp
  | _ :: _, 0, _ => by simp
  | _ :: xs, i + 1, y => by simp [erase_set xs i y]
theorem Tr.lay [d : Deep τ] {enc : τ → Array Value} {c : Nat} [f : FlatT τ enc c] {s : Sv} {xs : List τ} {i : Nat} {y : τ} (hi : i < xs.length) :
    Tr (own enc c s (xs.set i y) :: Deep.ent y :: ((xs.eraseIdx i).map d.ent ++ L)) (Deep.ent (⟨s, xs.set i y⟩ : Sl τ) :: L) := by
  have hy : (xs.set i y)[i]? = some y := by simp [hi]
  have := (map_erase d.ent hy).symm
  rw [erase_set] at this
  exact (Tr.cons (Tr.right (Tr.perm this) L) _).trans (Tr.shut_d (a := ⟨s, xs.set i y⟩))

class Take (L : List Ent) {τ : Type} [Deep τ] (x : τ) (R : outParam (List Ent)) : Prop where
  h : Tr L (Deep.ent x :: R)
class TakeL (L : List Ent) {τ : Type} [Deep τ] (xs : List τ) (R : outParam (List Ent)) : Prop where
  h : Tr L (xs.map Deep.ent ++ R)
instance (priority := high) Take.at [Deep τ] {x : τ} {i : Nat} [a : At L (Deep.ent x) i] [d : DelI L i R] : Take L x R := ⟨by
  have := Tr.front a.h; rwa [d.h] at this⟩
instance (priority := low) Take.plain [Deep τ] [p : Plain τ] {x : τ} : Take L x L := ⟨by rw [p.h]; exact Tr.emp'⟩
instance Take.own [Deep τ] [p : Plain τ] {enc : τ → Array Value} {c : Nat} [f : FlatT τ enc c] {s : Sv} {xs : List τ} {i : Nat} [a : At L (own enc c s xs) i] [d : DelI L i R] : Take L (⟨s, xs⟩ : Sl τ) R := ⟨by
  have := Tr.front a.h; rw [d.h] at this
  exact this.trans (Tr.shut_p (a := ⟨s, xs⟩))⟩
instance TakeL.nil [Deep τ] : TakeL L ([] : List τ) L := ⟨.refl⟩
instance TakeL.cons [Deep τ] {x : τ} {xs : List τ} [a : Take L x R1] [b : TakeL R1 xs R2] : TakeL L (x :: xs) R2 := ⟨a.h.trans (b.h.cons _)⟩
instance : Plain UInt8 := ⟨fun _ => rfl⟩
end

/-! Slices of values that reach memory. -/
section
variable {P : Program} {N : Fra} {w0 : World} {env : Env} {L R R1 R2 : List Ent} {l : List Oper} {Q : Exit → Act → World → Prop} {rest : List Oper} {d : Option Tmp} {ty : TypeId} {ps : String} {af : Array Edge}
variable {τ : Type} [dp : Deep τ] {enc : τ → Array Value} {c : Nat}
theorem sq_appendG {α : Type} {enc : α → Array Value} {c : Nat} {s : Sv} {xs ys : List α} {t tx e : TypeId} {x y : Operand} {yv : Value} {by' : Nat} [ht : SlT P t e c by'] [he : Enc enc c] (R : List Ent) (hx : ev env x = some s.val) (hy : ev env y = some yv)
    (ho : ∀ w, Mem w0 L w → Mem w0 (own enc c s xs :: R) w) (hc : 0 < c) (hs : ∀ w, Mem w0 L w → Src P c tx yv ys.length (flatR enc ys) w) (hb : (xs.length + ys.length) * by' ≤ 140737488355328) (h63 : xs.length + ys.length ≤ 140737488355328)
    (hk : ∀ s' : Sv, Sq P N w0 l Q rest (putE env d s'.val) (own enc c s' (xs ++ ys) :: R)) (hd : dstOk N d = true := by rfl) :
    Sq P N w0 l Q (⟨d, .call { callee := .builtin .append, args := #[x, y], argTypes := #[t, tx] }, ty, ps, af, none⟩ :: rest) env L :=
  sq_run rfl hd fun a w ha hw => by
    obtain ⟨s', w', h1, h2, h3, h4⟩ := append_own (i := 0) (ty := ty) ht hc (ho w hw) rfl (hs w hw) hb h63
    refine ⟨s'.val, w', _, ?_, by simpa using h4, hk s'⟩
    simp [execOp, ha.ev hx, ha.ev hy, resolve, invoke, builtin, h1, Result.andThen]
theorem sq_appendD {s : Sv} {t tx e e' : TypeId} {x y : Operand} {by' m : Nat} [f : FlatT τ enc c] [ht : SlT P t e c by'] [ht' : SliceT P tx e' m] [he : Enc enc c] (a : Sl τ) (ys : List τ) (hx : ev env x = some a.sv.val) (hy : ev env y = some s.val) [q : Hd w0 L s enc c ys]
    [k1 : Take L a R1] [k2 : TakeL R1 ys R2] (hc : 0 < c) (hb : (a.xs.length + ys.length) * by' ≤ 140737488355328) (h63 : a.xs.length + ys.length ≤ 140737488355328)
    (hk : ∀ a' : Sl τ, a'.xs = a.xs ++ ys → Sq P N w0 l Q rest (putE env d a'.sv.val) (Deep.ent a' :: R2)) (hd : dstOk N d = true := by rfl) :
    Sq P N w0 l Q (⟨d, .call { callee := .builtin .append, args := #[x, y], argTypes := #[t, tx] }, ty, ps, af, none⟩ :: rest) env L :=
  sq_appendG (enc := enc) (c := c) (xs := a.xs) (ys := ys) (a.xs.map dp.ent ++ (ys.map dp.ent ++ R2)) hx hy (fun w hw => ((k1.h.trans (k2.h.cons _)).trans Tr.open_d).mem hw) hc (fun w hw => src_rows ht'.und hc (q.h w hw)) hb h63
    (fun s' aa w ha hw => hk ⟨s', a.xs ++ ys⟩ rfl aa w ha (by
      have t1 : Tr (own enc c s' (a.xs ++ ys) :: (a.xs.map dp.ent ++ (ys.map dp.ent ++ R2))) (Deep.ent (⟨s', a.xs ++ ys⟩ : Sl τ) :: R2) := by
        have := Tr.shut_d (enc := enc) (c := c) (a := (⟨s', a.xs ++ ys⟩ : Sl τ)) (L := R2)
        simpa using this
      exact t1.mem hw)) hd
theorem Mem.nilEnt {w : World} [f : FlatT τ enc c] (h : Mem w0 L w) : Mem w0 (Deep.ent (⟨Sv.none, []⟩ : Sl τ) :: L) w :=
  (Tr.shut_d (enc := enc) (c := c) (a := (⟨Sv.none, []⟩ : Sl τ)) (L := L)).mem (by simpa using h.nilOwn enc c)
theorem sq_ownD0 (τ : Type) [Deep τ] {enc : τ → Array Value} {c : Nat} [f : FlatT τ enc c] (h : Sq P N w0 l Q rest env (Deep.ent (⟨Sv.none, []⟩ : Sl τ) :: L)) : Sq P N w0 l Q rest env L := fun a w ha hw => h a w ha (Mem.nilEnt (enc := enc) (c := c) hw)
def elAt {τ : Type} (s : Sl (Sl τ)) (i : Nat) : Sl τ := s.xs.getD i ⟨Sv.none, []⟩
theorem elAt_get {τ : Type} {s : Sl (Sl τ)} {i : Nat} {x : Sl τ} (h : s.xs[i]? = some x) : elAt s i = x := by simp [elAt, h]
theorem elAt_none {τ : Type} {s : Sl (Sl τ)} {i : Nat} (h : s.xs.length ≤ i) : elAt s i = ⟨Sv.none, []⟩ := by simp [elAt, h]
theorem elAt_xs {τ : Type} (s : Sl (Sl τ)) (i : Nat) : (elAt s i).xs = (lx s).getD i [] := by
  rcases Nat.lt_or_ge i s.xs.length with h | h
  · have : s.xs[i]? = some s.xs[i] := by simp [h]
    simp [elAt_get this, lx, h]
  · rw [elAt_none h]; simp [lx, h]
theorem good_none {h : Nat → Option Obj} : Deep.good h (⟨Sv.none, []⟩ : Sl τ) := ⟨Lies.nil _ _ _, fun _ hx => by cases hx⟩
def Sl.nil {τ : Type} : Sl τ := ⟨Sv.none, []⟩
instance HdD.none : HdD w0 L (Sl.nil : Sl τ) := ⟨fun _ _ => good_none⟩
instance HdD.elAt {s : Sl (Sl τ)} {i : Nat} [q : HdD w0 L s] : HdD w0 L (elAt s i) := ⟨fun w hw => by
  rcases Nat.lt_or_ge i s.xs.length with h | h
  · have hx : s.xs[i]? = some s.xs[i] := by simp [h]
    rw [elAt_get hx]; exact (q.h w hw).2 _ (List.mem_of_getElem? hx)
  · rw [elAt_none h]; exact good_none⟩
theorem Tr.nils {L : List Ent} [f : FlatT τ enc c] : ∀ n, Tr L ((List.replicate n (⟨Sv.none, []⟩ : Sl τ)).map Deep.ent ++ L)
  | 0 => .refl
  | n + 1 => by
    rw [List.replicate_succ, List.map_cons]
    exact (Tr.nils n).trans fun K w0 w hw => Mem.nilEnt (enc := enc) (c := c) hw
theorem sq_makeD {t e : TypeId} {by' n cap : Nat} {x y : Operand} {k k' : IntKind} {ix iy : Int} [f : FlatT τ enc c] [ht : SlT P t e 1 by'] [hz : ZeroT P e (.slice none 0 0)] (hx : ev env x = some (.int k ix)) (hy : ev env y = some (.int k' iy)) (ex : ix = (n : Int)) (ey : iy = (cap : Int)) (hle : n ≤ cap) (hb : by' * cap ≤ 281474976710656) (h63 : cap ≤ 140737488355328)
    (hk : ∀ a : Sl (Sl τ), a.xs = List.replicate n ⟨Sv.none, []⟩ → Sq P N w0 l Q rest (putE env d a.sv.val) (Deep.ent a :: L)) (hd : dstOk N d = true := by rfl) :
    Sq P N w0 l Q (⟨d, .makeSlice t x y, ty, ps, af, none⟩ :: rest) env L :=
  sq_makeS (enc := scells (τ := τ)) (n := n) (cap := cap) (⟨Sv.none, []⟩ : Sl τ) rfl hx hy ex ey hle hb h63 (fun b a w ha hw => hk ⟨⟨false, b, 0, n, cap, none⟩, List.replicate n ⟨Sv.none, []⟩⟩ rfl a w ha
    (((Tr.nils (enc := enc) (c := c) n).cons _ |>.trans (Tr.shut_d (enc := scells) (c := 1) (a := (⟨⟨false, b, 0, n, cap, none⟩, List.replicate n ⟨Sv.none, []⟩⟩ : Sl (Sl τ))))).mem hw)) hd
end

section
variable {P : Program} {N : Fra} {w0 : World} {env : Env} {L : List Ent} {l : List Oper} {Q : Exit → Act → World → Prop} {rest : List Oper} {d : Option Tmp} {ty : TypeId} {ps : String} {af : Array Edge}
theorem sq_copyS {α : Type} {enc : α → Array Value} {x y : Operand} {tx tys e : TypeId} {i b o dl dc : Nat} {sv : Sv} {ys : List α} {cs : Array Value} {T : TypeId} (hx : ev env x = some (.slice (some ⟨b, o, none⟩) dl dc)) (hy : ev env y = some sv.val)
    [ht : SliceT P tx e 1] [hh : Has L b cs T i] [q : Hd w0 L sv enc 1 ys] [he : Enc enc 1] (h0 : 0 < ys.length) (hl : ys.length ≤ dl) (ho : o + ys.length ≤ cs.size)
    {cs' : Array Value} {L' : List Ent} (hcs : over cs o (flatR enc ys).toArray = cs') [hu : Upd L i (blk b cs' T) L'] (hk : Sq P N w0 l Q rest (putE env d (.int .i64 (ys.length : Nat))) L') (hd : dstOk N d = true := by rfl) :
    Sq P N w0 l Q (⟨d, .call { callee := .builtin .copy, args := #[x, y], argTypes := #[tx, tys] }, ty, ps, af, none⟩ :: rest) env L := fun a w ha hw => by
  have r := q.h w hw
  have hn := r.some (i := 0) h0
  have hlen := r.len
  rw [Sv.val_some hn, r.ok.sp (by have := r.ok.le; omega)] at hy
  have hs : (flatR enc ys).toArray.size = ys.length := by rw [List.size_toArray, flatR_length, Nat.mul_one]
  have hk' := hk
  rw [← hs] at hk'
  refine sq_copy (vs := (flatR enc ys).toArray) hx hy ?_ (fun w hw j hj => ?_) ?_ (by rw [hs]; exact ho) hcs hk' hd a w ha hw
  · rw [hs]; simp only [Nat.min_def]; split <;> omega
  · rw [hs] at hj
    have := flatR_get (enc := enc) ys j ys[j] (by simp [hj]) 0 (by decide)
    have r2 := (q.h w hw).row j ys[j] (by simp [hj]) 0 (by decide)
    simp only [Nat.mul_one, Nat.add_zero] at this r2
    rw [Addr.add_none, cell_hp, r2, ← this]; simp
  · rw [Array.all_eq_true_iff_forall_mem]; intro v hv; exact flatR_one (enc := enc) ys v (by simpa using hv)
end

theorem Sv.cells_val (s : Sv) : s.val.cells = #[s.val] := by unfold Sv.val; split <;> rfl
theorem Tr.pick1 {τ : Type} [Deep τ] [Plain τ] {enc : τ → Array Value} {c : Nat} [FlatT τ enc c] {a : Sl (Sl τ)} {x : Sl τ} {i : Nat} {B : List Ent} (hx : a.xs[i]? = some x) :
    Tr (B ++ [Deep.ent a]) (own scells 1 a.sv a.xs :: own enc c x.sv x.xs :: (B ++ (a.xs.eraseIdx i).map Deep.ent)) := by
  refine (Tr.perm (List.perm_append_comm (l₁ := B) (l₂ := [Deep.ent a]))).trans ?_
  refine (Tr.pick (L := B) hx).trans (Tr.cons (Tr.open_p.trans (Tr.cons (Tr.perm List.perm_append_comm) _)) _)
theorem Tr.lay1 {τ : Type} [Deep τ] [Plain τ] {enc : τ → Array Value} {c : Nat} [FlatT τ enc c] {s y : Sv} {xs : List (Sl τ)} {ys : List τ} {i : Nat} {B : List Ent} (hi : i < xs.length) :
    Tr (own scells 1 s (xs.set i ⟨y, ys⟩) :: own enc c y ys :: (B ++ (xs.eraseIdx i).map Deep.ent)) (Deep.ent (⟨s, xs.set i ⟨y, ys⟩⟩ : Sl (Sl τ)) :: B) := by
  refine Tr.trans ?_ (Tr.lay (L := B) hi)
  exact Tr.cons ((Tr.shut_p (a := (⟨y, ys⟩ : Sl τ))).trans (Tr.cons (Tr.perm List.perm_append_comm) _)) _

theorem sq_storeSv {P : Program} {N : Fra} {w0 : World} {env : Env} {L : List Ent} {l : List Oper} {Q : Exit → Act → World → Prop} {rest : List Oper} {ty : TypeId} {ps : String} {af : Array Edge} {τ : Type} {t : TypeId} {x y : Operand} {i k p : Nat} {s : Sv} {xs : List (Sl τ)} {a : Sl τ} (a' : Sl τ)
    (sz : (P.info? t).map (·.size) = some 1) (hx : ev env x = some (.pointer (some ⟨s.b, p, none⟩))) (hy : ev env y = some a'.sv.val) [q : Owns L s (scells (τ := τ)) 1 xs i] (hp' : p = s.o + k * 1) (ha : xs[k]? = some a) {L' : List Ent} [hu : Upd L i (own scells 1 s (xs.set k a')) L'] (hk : Sq P N w0 l Q rest env L') :
    Sq P N w0 l Q (⟨none, .store t x y, ty, ps, af, none⟩ :: rest) env L :=
  sq_storeS (j := 0) (a' := a') sz hx hy (q := q) hp' ha (by rw [Sv.cells_val]; simp [Sv.one]) (by rw [Sv.cells_val]; rfl) (by decide) (by rw [Sv.cells_val]; rfl) hk

/-! Guards that are known. -/
section
variable {P : Program} {N : Fra} {w0 : World} {env : Env} {L : List Ent} {l : List Oper} {Q : Exit → Act → World → Prop} {rest : List Oper} {d : Option Tmp} {ty : TypeId} {ps : String} {af : Array Edge} {gd : Option (Nat × Bool)}
variable {fs : List Nat} {F : Act → Prop} {k : Nat}
theorem sq_ty {o : Oper} {v : Value} {j t : Nat} {b g : Bool} (hg : o.guard = some (j, b)) (hj : (l[j]?).bind (·.dst) = some t) (hv : look env t = some (.bool g)) (ht : g = b) (h : Yl P N w0 env L o v)
    (hk : Sq P N w0 l Q rest (putE env o.dst v) L) (hd : dstOk N o.dst = true := by rfl) : Sq P N w0 l Q (o :: rest) env L := fun a w ha hw => by
  unfold wpList
  rw [wanted_some ha hg hj hv, ht, beq_self_eq_true, if_pos rfl]
  exact .inl (wp_of_yl ha hw h fun w' hw' => hk _ _ (ha.put hd v) hw')
theorem qt_ty {o : Oper} {v : Value} {j t : Nat} {b g : Bool} (hg : o.guard = some (j, b)) (hj : (l[j]?).bind (·.dst) = some t) (hv : look env t = some (.bool g)) (ht : g = b) (h : Yl P N w0 env L o v)
    (hk : Qt P N w0 l fs F (k + 1) rest (putE env o.dst v) L) (hd : dstOk N o.dst = true := by rfl) (hf : fs.contains k = false := by rfl) : Qt P N w0 l fs F k (o :: rest) env L := fun a ha => by
  unfold wpHead
  rw [if_neg (by rw [hf]; exact Bool.false_ne_true), wanted_some ha hg hj hv, ht, beq_self_eq_true, if_pos rfl]
  exact ⟨v, h a ha, hk _ (ha.put hd v)⟩
theorem sq_tcallC {X : Type} {val : X → Value} {L' : X → List Ent} {pr : X → Prop} {pre : Prop} {f : FuncId} {xs : List Operand} {ts : Array TypeId} {vs : List Value} {j t : Nat} {b g : Bool} (hj : (l[j]?).bind (·.dst) = some t) (hv : look env t = some (.bool g)) (ht : g = b) [hf : IsFn P f] (hx : evl env xs = some vs)
    [hc : FnC P f w0 L vs X val L' pr pre] (hp : pre) (hk : ∀ x, pr x → Sq P N w0 l Q rest (putE env d (val x)) (L' x)) (hd : dstOk N d = true := by rfl) :
    Sq P N w0 l Q (⟨d, .call { callee := .value (.func f), args := xs.toArray, argTypes := ts }, ty, ps, af, some (j, b)⟩ :: rest) env L := fun a w ha hw => by
  unfold wpList
  rw [wanted_some ha rfl hj hv, ht, beq_self_eq_true, if_pos rfl]
  refine .inl ?_
  unfold Oper.wp
  rw [run_call hf w rfl, ha.evl hx]
  exact (hc.h hp w hw).mono fun e w' ⟨x, he, hpx, hm⟩ => by subst he; exact hk x hpx _ _ (ha.put hd _) hm
theorem sq_fy {o : Oper} {j t : Nat} {b g : Bool} (hg : o.guard = some (j, b)) (hj : (l[j]?).bind (·.dst) = some t) (hv : look env t = some (.bool g)) (ht : g = !b)
    (hk : Sq P N w0 l Q rest (putE env o.dst undef) L) (hd : dstOk N o.dst = true := by rfl) : Sq P N w0 l Q (o :: rest) env L := fun a w ha hw => by
  unfold wpList
  rw [wanted_some ha hg hj hv, ht, if_neg (by cases b <;> simp)]
  exact hk _ _ (ha.put hd undef) hw
end
theorem ry_pickT {P : Program} {N : Fra} {w0 : World} {env : Env} {L : List Ent} {d : Option Tmp} {ty : TypeId} {ps : String} {af : Array Edge} {gd : Option (Nat × Bool)} {c x y : Operand} {g : Bool} {v : Value} (hc : ev env c = some (.bool g)) (ht : g = true) (hx : ev env x = some v) (hy : ev env y = some (.bool false)) :
    Ry P N w0 env L ⟨d, .pick c x y, ty, ps, af, gd⟩ v := by
  subst ht
  have h := ry_pick (P := P) (N := N) (w0 := w0) (L := L) (d := d) (ty := ty) (ps := ps) (af := af) (gd := gd) hc hx hy
  simpa using h
theorem ry_pickF {P : Program} {N : Fra} {w0 : World} {env : Env} {L : List Ent} {d : Option Tmp} {ty : TypeId} {ps : String} {af : Array Edge} {gd : Option (Nat × Bool)} {c x y : Operand} {g : Bool} {v : Value} (hc : ev env c = some (.bool g)) (ht : g = false) (hx : ev env x = some (.bool true)) (hy : ev env y = some v) :
    Ry P N w0 env L ⟨d, .pick c x y, ty, ps, af, gd⟩ v := by
  subst ht
  have h := ry_pick (P := P) (N := N) (w0 := w0) (L := L) (d := d) (ty := ty) (ps := ps) (af := af) (gd := gd) hc hx hy
  simpa using h
end Go.Eng

/- A region that draws its order, told in one line: operations that only read and yield stand wherever; what makes or writes memory goes one behind the other. -/
namespace Go.Eng
section
variable {P : Program} {l : List Oper} {Q : Exit → Act → World → Prop} {fs : List Nat} {w0 : World}

def IsAlloc (P : Program) (o : Oper) (t : TypeId) (z : Value) : Prop := ∀ (ρ : Operand → Value) (w : World), (execOp ρ o).run P w = .ok (.value (.pointer (some ⟨w.heap.size, 0, none⟩))) (w.alloc (.cells z.cells t))
theorem IsAlloc.uniq {o : Oper} {t t' : TypeId} {z z' : Value} (h : IsAlloc P o t z) (h' : IsAlloc P o t' z') (b : Nat) : blk b z.cells t = blk b z'.cells t' := by
  have w0 : World := default
  have h1 := h (fun _ => undef) w0
  rw [h' (fun _ => undef) w0] at h1
  simp only [Result.ok.injEq, true_and] at h1
  have h2 := congrArg (fun w : World => w.heap[w0.heap.size]?) h1
  simp only [Below.heap_new] at h2
  simp only [Option.some.injEq, Obj.cells.injEq] at h2
  rw [h2.1, h2.2.1]
def upon (P : Program) (w : World) (R : Value → World → Prop) : Result Next → Prop
  | .ok (.value v) w' => R v w'
  | .ok .skip w' => R undef w'
  | .ok (.enter f args) w' => w' = w ∧ Calls P f args w fun e w'' => ∃ v, e = .returned v ∧ R v w''
  | _ => False

def Lin (P : Program) (l : List Oper) (fs : List Nat) (Q : Exit → Act → World → Prop) (w0 : World) : List Nat → Act → List Ent → List Ent → Prop
  | [], af, L, _ => ∀ w, Mem w0 L w → Q .normal af w
  | k :: ord, af, L, Lq => ∃ o, l[k]? = some o ∧ (if fs.contains k = true then (if fs.contains (k + 2000) = true then
      o.guard = none ∧ ∃ t z, IsAlloc P o t z ∧ ∀ b, Lin P l fs Q w0 ord (af.put o.dst (.pointer (some ⟨b, 0, none⟩))) (blk b z.cells t :: L) Lq
    else
      Region.wanted o (yielded l.toArray af.tmps) = true ∧ ∀ w, Mem w0 L w → upon P w (fun v w' => ∃ L' Lq', Mem w0 L' w' ∧ (∀ w, Mem w0 L' w → Mem w0 Lq' w) ∧ (∀ w, Mem w0 Lq' w → Mem w0 Lq w) ∧ Lin P l fs Q w0 ord (af.put o.dst v) L' Lq') ((execOp af.eval o).run P w))
    else ∃ v, (Region.wanted o (yielded l.toArray af.tmps) = true → quietR P o af (Mem w0 (if fs.contains (k + 1000) = true then L else Lq)) v) ∧ (Region.wanted o (yielded l.toArray af.tmps) = false → v = undef) ∧ Lin P l fs Q w0 ord (af.put o.dst v) L Lq)

def deps (o : Oper) : List Nat := (o.after.toList.filter fun e => Region.binds .any e).map (·.on)

def linOp (l : List Oper) (fs : List Nat) (A : List (List Nat)) (prev seen : List Nat) (k : Nat) (o : Oper) : Bool :=
  (!fs.contains k || (prev.all fun j => !fs.contains (j + 1000) || (A.getD k []).contains j)) &&
  (match o.op with | .select .. => false | _ => true) &&
  ((deps o).all fun j => decide (j < k)) &&
  (fs.contains (k + 2000) || seen.all fun f => (A.getD k []).contains f) &&
  ((A.getD k []).all fun f => (deps o).any fun j => j == f || (A.getD j []).contains f) &&
  ((List.range l.length).all fun j => match dstAt l j with
    | none => true
    | some d => (!(o.looksAt l.toArray).contains d || (prev.contains j && (deps o).contains j)) && (j == k || o.dst != some d))
def linGo (l : List Oper) (fs : List Nat) (A : List (List Nat)) : List Nat → List Nat → List Nat → Bool
  | _, _, [] => true
  | prev, seen, k :: ord => (match l[k]? with | none => false | some o => linOp l fs A prev seen k o) && (!fs.contains k || fs.contains (k + 2000) || ord.all fun j => !fs.contains (j + 2000)) && linGo l fs A (k :: prev) (if fs.contains k then k :: seen else seen) ord
def linB (l : List Oper) (fs : List Nat) (A : List (List Nat)) (ord : List Nat) : Bool :=
  ((List.range l.length).all fun j => ord.contains j) && decide ord.Nodup && (ord.all fun j => decide (j < l.length)) && (fs.all fun j => decide (j < 2000)) && linGo l fs A [] [] ord
def linB2 (l : List Oper) (fs : List Nat) (A : List (List Nat)) (ord : List Nat) : Bool :=
  ((List.range l.length).all fun j => ord.contains j) && decide ord.Nodup && (ord.all fun j => decide (j < l.length)) && linGo l fs A [] [] ord

structure OpOk (l : List Oper) (fs : List Nat) (A : List (List Nat)) (prev seen : List Nat) (k : Nat) (o : Oper) : Prop where
  tmp : fs.contains k = true → ∀ j ∈ prev, fs.contains (j + 1000) = true → j ∈ A.getD k []
  nosel : ∀ cs b, o.op ≠ .select cs b
  back : ∀ e ∈ o.after, Region.binds .any e = true → e.on < k
  anc : fs.contains (k + 2000) = false → ∀ f ∈ seen, f ∈ A.getD k []
  cert : ∀ f ∈ A.getD k [], ∃ e ∈ o.after, Region.binds .any e = true ∧ (e.on = f ∨ f ∈ A.getD e.on [])
  reads : ∀ j d, j < l.length → dstAt l j = some d → d ∈ o.looksAt l.toArray → j ∈ prev ∧ ∃ e ∈ o.after, Region.binds .any e = true ∧ e.on = j
  one : ∀ j d, j < l.length → dstAt l j = some d → j ≠ k → o.dst ≠ some d

theorem mem_deps {o : Oper} {j : Nat} : j ∈ deps o ↔ ∃ e ∈ o.after, Region.binds .any e = true ∧ e.on = j := by
  unfold deps
  simp only [List.mem_map, List.mem_filter]
  constructor
  · rintro ⟨e, ⟨h1, h2⟩, h3⟩; exact ⟨e, by simpa using h1, h2, h3⟩
  · rintro ⟨e, h1, h2, h3⟩; exact ⟨e, ⟨by simpa using h1, h2⟩, h3⟩

theorem linOp_spec {A : List (List Nat)} {prev seen : List Nat} {k : Nat} {o : Oper} (h : linOp l fs A prev seen k o = true) : OpOk l fs A prev seen k o := by
  simp only [linOp, Bool.and_eq_true] at h
  obtain ⟨⟨⟨⟨⟨h0, h1⟩, h2⟩, h3⟩, h4⟩, h5⟩ := h
  refine ⟨fun hk j hj ht => by
    rw [hk, Bool.not_true, Bool.false_or] at h0
    have := List.all_eq_true.1 h0 j hj
    rw [ht] at this
    simpa using this, fun cs b e => by rw [e] at h1; simp at h1, fun e he hb => ?_, fun hal f hf => ?_, fun f hf => ?_, fun j d hj hd hl => ?_, fun j d hj hd hne => ?_⟩
  · have := List.all_eq_true.1 h2 e.on (mem_deps.2 ⟨e, he, hb, rfl⟩)
    simpa using this
  · rw [hal, Bool.false_or] at h3
    have := List.all_eq_true.1 h3 f hf
    simpa using this
  · have := List.all_eq_true.1 h4 f hf
    obtain ⟨j, hj, hj2⟩ := List.any_eq_true.1 this
    obtain ⟨e, he, hb, rfl⟩ := mem_deps.1 hj
    exact ⟨e, he, hb, by simpa using hj2⟩
  · have := List.all_eq_true.1 h5 j (List.mem_range.2 hj)
    rw [hd] at this
    simp only [Bool.and_eq_true, Bool.or_eq_true, Bool.not_eq_true'] at this
    rcases this.1 with h6 | h6
    · exact absurd hl (by simpa using h6)
    · exact ⟨by simpa using h6.1, mem_deps.1 (by simpa using h6.2)⟩
  · have := List.all_eq_true.1 h5 j (List.mem_range.2 hj)
    rw [hd] at this
    simp only [Bool.and_eq_true, Bool.or_eq_true, beq_iff_eq] at this
    rcases this.2 with h6 | h6
    · exact absurd h6 hne
    · simpa using h6

theorem linGo_spec {A : List (List Nat)} : ∀ (ord prev seen : List Nat), linGo l fs A prev seen ord = true → ∀ (x : List Nat) (k : Nat) (y : List Nat), ord = x ++ k :: y →
    ∃ o, l[k]? = some o ∧ OpOk l fs A (x.reverse ++ prev) ((x.filter fun j => fs.contains j).reverse ++ seen) k o ∧ (fs.contains k = true → fs.contains (k + 2000) = false → ∀ j ∈ y, fs.contains (j + 2000) = false)
  | [], _, _, _, x, k, y, e => by simp at e
  | k0 :: ord, prev, seen, h, x, k, y, e => by
    simp only [linGo, Bool.and_eq_true] at h
    cases x with
    | nil =>
      simp only [List.nil_append, List.cons.injEq] at e
      obtain ⟨rfl, rfl⟩ := e
      cases ho : l[k0]? with
      | none => rw [ho] at h; simp at h
      | some o =>
        rw [ho] at h
        refine ⟨o, rfl, by simpa using linOp_spec h.1.1, fun h1 h2 j hj => ?_⟩
        have h3 := h.1.2
        rw [h1, h2] at h3
        simp only [Bool.not_true, Bool.false_or] at h3
        have := List.all_eq_true.1 h3 j hj
        simpa using this
    | cons x0 x =>
      simp only [List.cons_append, List.cons.injEq] at e
      obtain ⟨rfl, rfl⟩ := e
      obtain ⟨o, ho, hk, hy⟩ := linGo_spec _ _ _ h.2 x k y rfl
      refine ⟨o, ho, ?_, hy⟩
      have e1 : (k0 :: x).reverse ++ prev = x.reverse ++ (k0 :: prev) := by simp
      have e2 : (((k0 :: x).filter fun j => fs.contains j).reverse ++ seen) = (x.filter fun j => fs.contains j).reverse ++ (if fs.contains k0 then k0 :: seen else seen) := by
        cases hc : fs.contains k0 with
        | true =>
          rw [List.filter_cons, if_pos hc, List.reverse_cons, List.append_assoc]; rfl
        | false =>
          rw [List.filter_cons, if_neg (by rw [hc]; exact Bool.false_ne_true)]; rfl
      rw [e1, e2]; exact hk

def slotIs (N0 d : Nat) (v : Value) (a : Act) : Prop := a.tmps[d]? = if d < N0 then some v else none
theorem slotIs_put {N0 d : Nat} {v : Value} {a : Act} (h : a.tmps.size = N0) : slotIs N0 d v (a.put (some d) v) := by
  subst h
  unfold slotIs
  simp [Act.put, Array.getElem?_setIfInBounds]

def Pend (P : Program) (l : List Oper) (w0 : World) (N0 k : Nat) (af : Act) (Lq : List Ent) : Prop :=
  ∃ o v, l[k]? = some o ∧ (∀ d, o.dst = some d → slotIs N0 d v af) ∧ (Region.wanted o (yielded l.toArray af.tmps) = true → quietR P o af (Mem w0 Lq) v) ∧ (Region.wanted o (yielded l.toArray af.tmps) = false → v = undef)

def Early (P : Program) (l : List Oper) (fs : List Nat) (N0 : Nat) (suf : List Nat) (listed : Array Bool) (a : Act) (e : Nat × Ent) : Prop :=
  e.1 ∈ suf ∧ listed.getD e.1 true = true ∧ fs.contains e.1 = true ∧ fs.contains (e.1 + 2000) = true ∧ ∃ o t z b, l[e.1]? = some o ∧ IsAlloc P o t z ∧ e.2 = blk b z.cells t ∧ ∀ d, o.dst = some d → slotIs N0 d (.pointer (some ⟨b, 0, none⟩)) a
structure Core (P : Program) (l : List Oper) (fs : List Nat) (Q : Exit → Act → World → Prop) (w0 : World) (ord : List Nat) (a0 : Act) (pre suf : List Nat) (af : Act) (L Lq : List Ent) (E : List (Nat × Ent)) (listed : Array Bool) (a : Act) (w : World) : Prop where
  ord : ord = pre ++ suf
  inv : HeadInv .any l.toArray l.length listed
  mem : Mem w0 (E.map (·.2) ++ L) w
  ear : ∀ e ∈ E, Early P l fs a0.tmps.size suf listed a e
  keys : (E.map (·.1)).Nodup
  sees : ∀ w, Mem w0 L w → Mem w0 Lq w
  lin : Lin P l fs Q w0 suf af L Lq
  size : a.tmps.size = a0.tmps.size
  sizef : af.tmps.size = a0.tmps.size
  defers : a.defers = a0.defers
  defersf : af.defers = a0.defers
  sub : ∀ j, j < l.length → listed.getD j true = true → j ∈ pre ∨ j ∈ E.map (·.1)
  fresh : ∀ j ∈ pre, fs.contains j = true → listed.getD j true = true
  pend : ∀ j ∈ pre, listed.getD j true = false → Pend P l w0 a0.tmps.size j af (if fs.contains (j + 1000) = true then L else Lq)
  done : ∀ j d, j < l.length → listed.getD j true = true → j ∈ pre → dstAt l j = some d → a.tmps[d]? = af.tmps[d]?
  rest : ∀ d, (∀ j, j < l.length → listed.getD j true = true → dstAt l j ≠ some d) → a.tmps[d]? = a0.tmps[d]?
  full : ∀ d, (∀ j ∈ pre, dstAt l j ≠ some d) → af.tmps[d]? = a0.tmps[d]?

variable {A : List (List Nat)} {ord : List Nat} {a0 : Act}

theorem looks_same {o : Oper} (hn : ∀ cs b, o.op ≠ .select cs b) {a b : Act} (h : ∀ t ∈ o.looksAt l.toArray, a.tmps[t]? = b.tmps[t]?) :
    execOp a.eval o = execOp b.eval o ∧ Region.wanted o (yielded l.toArray a.tmps) = Region.wanted o (yielded l.toArray b.tmps) :=
  ⟨execOp_congr o hn (eval_same h), wanted_same h⟩
theorem quietR_congr {o : Oper} {a b : Act} {C D : World → Prop} {v : Value} (e : execOp a.eval o = execOp b.eval o) (hD : ∀ w, D w → C w) (h : quietR P o a C v) : quietR P o b D v := fun w hw => by
  have := h w (hD w hw)
  unfold Oper.quietAt at this ⊢
  rw [← e]; exact this

theorem pend_put {pre suf : List Nat} {i k N0 : Nat} {af : Act} {Lq Lq' : List Ent} {oi : Oper} {u : Value} (hB : linGo l fs A [] [] ord = true) (hnd : ord.Nodup) (hlt : ∀ j ∈ ord, j < l.length) (ho : ord = pre ++ i :: suf) (hio : l[i]? = some oi) (hk : k ∈ pre) (hq : ∀ w, Mem w0 Lq' w → Mem w0 Lq w)
    (h : Pend P l w0 N0 k af Lq) : Pend P l w0 N0 k (af.put oi.dst u) Lq' := by
  obtain ⟨o, v, h1, h2, h3, h4⟩ := h
  obtain ⟨x, y, rfl⟩ := List.append_of_mem hk
  have ho' : ord = x ++ k :: (y ++ i :: suf) := by rw [ho]; simp
  obtain ⟨o', hko, hok, -⟩ := linGo_spec ord [] [] hB x k _ ho'
  have : o' = o := by rw [h1] at hko; exact (Option.some.inj hko).symm
  subst this
  have hil : i < l.length := (List.getElem?_eq_some_iff.1 hio).1
  have hdi : dstAt l i = oi.dst := by simp [dstAt, hio]
  have hik : i ≠ k := fun e => by
    subst e
    rw [ho'] at hnd
    have := (List.nodup_append.1 hnd).2.1
    exact (List.nodup_cons.1 this).1 (by simp)
  have hix : i ∉ x := fun hx => by
    rw [ho'] at hnd
    exact (List.nodup_append.1 hnd).2.2 i hx i (by simp) rfl
  have hlook : ∀ t ∈ o'.looksAt l.toArray, af.tmps[t]? = (af.put oi.dst u).tmps[t]? := fun t ht => by
    refine (put_get _ _ _ _ fun e => ?_).symm
    obtain ⟨hp, _⟩ := hok.reads i t hil (by rw [hdi]; exact e) ht
    rw [List.append_nil, List.mem_reverse] at hp
    exact hix hp
  obtain ⟨e1, e2⟩ := looks_same hok.nosel hlook
  refine ⟨o', v, h1, fun d hd => ?_, fun hw => quietR_congr e1 hq (h3 (by rw [e2]; exact hw)), fun hw => h4 (by rw [e2]; exact hw)⟩
  have := h2 d hd
  unfold slotIs at this ⊢
  rw [put_get _ _ _ _ fun e => ?_]
  · exact this
  · exact hok.one i d hil (by rw [hdi]; exact e) hik hd

theorem mem_split {E : List (Nat × Ent)} {k : Nat} (h : k ∈ E.map (·.1)) : ∃ E1 x E2, E = E1 ++ (k, x) :: E2 := by
  obtain ⟨e, he, rfl⟩ := List.mem_map.1 h
  obtain ⟨E1, E2, rfl⟩ := List.append_of_mem he
  exact ⟨E1, e.2, E2, rfl⟩
theorem core_adv (hB : linGo l fs A [] [] ord = true) (hnd : ord.Nodup) (hlt : ∀ j ∈ ord, j < l.length) : ∀ (suf pre : List Nat) (af : Act) {L Lq : List Ent} {E : List (Nat × Ent)} {listed : Array Bool} {a : Act} {w : World}, Core P l fs Q w0 ord a0 pre suf af L Lq E listed a w →
    ∃ pre' suf' af' L' E', Core P l fs Q w0 ord a0 pre' suf' af' L' Lq E' listed a w ∧ (suf' = [] ∨ ∃ f r, suf' = f :: r ∧ fs.contains f = true ∧ f ∉ E'.map (·.1))
  | [], pre, af, L, _, E, _, _, _, H => ⟨pre, [], af, L, E, H, .inl rfl⟩
  | k :: suf, pre, af, L, Lq, E, listed, a, w, H => by
    have hkp : k ∉ pre := fun h => by
      have hnd' := hnd
      rw [H.ord] at hnd'
      exact (List.nodup_append.1 hnd').2.2 k h k (by simp) rfl
    have hun : ∀ j, j ∈ pre → j ≠ k := fun j hj e => hkp (e ▸ hj)
    have hks : k ∉ suf := fun h => by
      have hnd' := hnd
      rw [H.ord] at hnd'
      exact (List.nodup_cons.1 (List.nodup_append.1 hnd').2.1).1 h
    obtain ⟨o', hko', hok, -⟩ := linGo_spec ord [] [] hB pre k suf H.ord
    have hkl : k < l.length := (List.getElem?_eq_some_iff.1 hko').1
    have hdk : dstAt l k = o'.dst := by simp [dstAt, hko']
    cases hf : fs.contains k with
    | true =>
      by_cases hE : k ∈ E.map (·.1)
      · obtain ⟨E1, x, E2, rfl⟩ := mem_split hE
        obtain ⟨_, hlk, _, hal, oe, t, z, b, hoe, hA, hx, hsl⟩ := H.ear (k, x) (by simp)
        simp only at hlk hal hoe hx hsl
        have e0 : oe = o' := by rw [hoe] at hko'; exact Option.some.inj hko'
        subst e0
        obtain ⟨o, hko, hl⟩ := H.lin
        rw [if_pos hf, if_pos hal] at hl
        have e1 : o = oe := by rw [hko] at hko'; exact Option.some.inj hko'
        subst e1
        obtain ⟨_, t2, z2, hA2, hlin⟩ := hl
        have hx2 : x = blk b z2.cells t2 := hx.trans (hA.uniq hA2 b)
        have hperm : (((E1 ++ (k, x) :: E2).map (·.2)) ++ L).Perm (((E1 ++ E2).map (·.2)) ++ x :: L) := by
          simp only [List.map_append, List.map_cons, List.append_assoc, List.cons_append]
          exact List.Perm.append_left _ (List.perm_middle.symm)
        have hkeys := H.keys
        simp only [List.map_append, List.map_cons] at hkeys
        have hkE : ∀ e ∈ E1 ++ E2, e.1 ≠ k := fun e he e2 => by
          obtain ⟨n1, n2, n3⟩ := List.nodup_append.1 hkeys
          rcases List.mem_append.1 he with h | h
          · exact n3 e.1 (List.mem_map_of_mem h) k (by simp) e2
          · exact (List.nodup_cons.1 n2).1 (e2 ▸ List.mem_map_of_mem h)
        refine core_adv hB hnd hlt suf (pre ++ [k]) (af.put o.dst (.pointer (some ⟨b, 0, none⟩))) (L := x :: L) (E := E1 ++ E2) ⟨by rw [H.ord]; simp, H.inv, H.mem.perm hperm, fun e he => ?_, ?_, fun w hw => H.sees w (hw.sub (List.sublist_cons_self _ _)), by rw [hx2]; exact hlin b, H.size, by rw [put_size]; exact H.sizef, H.defers, by rw [put_def]; exact H.defersf, fun j hj hl => ?_, fun j hj hf' => ?_, fun j hj hl => ?_, fun j d hj hl hjp hd => ?_, H.rest, fun d hd => ?_⟩
        · have hm : e ∈ E1 ++ (k, x) :: E2 := by
            rcases List.mem_append.1 he with h | h
            · exact List.mem_append_left _ h
            · exact List.mem_append_right _ (List.mem_cons_of_mem _ h)
          obtain ⟨g1, g2⟩ := H.ear e hm
          exact ⟨(List.mem_cons.1 g1).resolve_left (hkE e he), g2⟩
        · rw [List.map_append]
          exact hkeys.sublist (List.Sublist.append_left (List.sublist_cons_self _ _) _)
        · rcases H.sub j hj hl with h | h
          · exact .inl (List.mem_append_left _ h)
          · simp only [List.map_append, List.map_cons, List.mem_append, List.mem_cons] at h
            rcases h with h | h | h
            · exact .inr (by simp only [List.map_append, List.mem_append]; exact .inl h)
            · exact .inl (by rw [h]; simp)
            · exact .inr (by simp only [List.map_append, List.mem_append]; exact .inr h)
        · rcases List.mem_append.1 hj with h | h
          · exact H.fresh j h hf'
          · obtain rfl := List.mem_singleton.1 h; exact hlk
        · rcases List.mem_append.1 hj with h | h
          · have hp := H.pend j h hl
            cases htj : fs.contains (j + 1000) with
            | true =>
              rw [htj] at hp
              simp only [if_true] at hp ⊢
              exact pend_put hB hnd hlt H.ord hko h (fun w hw => hw.sub (List.sublist_cons_self _ _)) hp
            | false =>
              rw [htj] at hp
              simp only [Bool.false_eq_true, if_false] at hp ⊢
              exact pend_put hB hnd hlt H.ord hko h (fun _ h => h) hp
          · obtain rfl := List.mem_singleton.1 h
            rw [hlk] at hl; cases hl
        · rcases List.mem_append.1 hjp with h | h
          · rw [put_get _ _ _ _ (hok.one j d hj hd (hun j h))]
            exact H.done j d hj hl h hd
          · obtain rfl := List.mem_singleton.1 h
            rw [hdk] at hd
            have h3 := hsl d hd
            rw [hd]
            have h4 : slotIs a0.tmps.size d (.pointer (some ⟨b, 0, none⟩)) (af.put (some d) (.pointer (some ⟨b, 0, none⟩))) := slotIs_put H.sizef
            unfold slotIs at h3 h4
            rw [h3, h4]
        · rw [put_get _ _ _ _ (by have := hd k (by simp); rwa [hdk] at this)]
          exact H.full d fun j hj => hd j (List.mem_append_left _ hj)
      · exact ⟨pre, k :: suf, af, L, E, H, .inr ⟨k, suf, rfl, hf, hE⟩⟩
    | false =>
      obtain ⟨o, hko, hl⟩ := H.lin
      rw [if_neg (by rw [hf]; exact Bool.false_ne_true)] at hl
      obtain ⟨v, h1, h2, h3⟩ := hl
      have : o' = o := by rw [hko] at hko'; exact (Option.some.inj hko').symm
      subst this
      have hlook : ∀ t ∈ o'.looksAt l.toArray, af.tmps[t]? = (af.put o'.dst v).tmps[t]? := fun t ht => by
        refine (put_get _ _ _ _ fun e => ?_).symm
        obtain ⟨hp, _⟩ := hok.reads k t hkl (by rw [hdk]; exact e) ht
        rw [List.append_nil, List.mem_reverse] at hp
        exact hkp hp
      obtain ⟨e1, e2⟩ := looks_same hok.nosel hlook
      refine core_adv hB hnd hlt suf (pre ++ [k]) (af.put o'.dst v) ⟨by rw [H.ord]; simp, H.inv, H.mem, fun e he => ?_, H.keys, H.sees, h3, H.size, by rw [put_size]; exact H.sizef, H.defers, by rw [put_def]; exact H.defersf, fun j hj hl => (H.sub j hj hl).imp_left fun h => List.mem_append_left _ h, fun j hj hf' => ?_, fun j hj hl => ?_, fun j d hj hl hjp hd => ?_, H.rest, fun d hd => ?_⟩
      · obtain ⟨g1, g2, g3, g4⟩ := H.ear e he
        exact ⟨(List.mem_cons.1 g1).resolve_left (fun e2 => by rw [e2, hf] at g3; cases g3), g2, g3, g4⟩
      · rcases List.mem_append.1 hj with h | h
        · exact H.fresh j h hf'
        · obtain rfl := List.mem_singleton.1 h
          rw [hf] at hf'; cases hf'
      · rcases List.mem_append.1 hj with h | h
        · exact pend_put hB hnd hlt H.ord hko h (fun _ h => h) (H.pend j h hl)
        · obtain rfl := List.mem_singleton.1 h
          refine ⟨o', v, hko, fun d hd => by rw [hd]; exact slotIs_put H.sizef, fun hw => quietR_congr e1 (fun _ h => h) (h1 (by rw [e2]; exact hw)), fun hw => h2 (by rw [e2]; exact hw)⟩
      · rcases List.mem_append.1 hjp with h | h
        · rw [put_get _ _ _ _ (hok.one j d hj hd (hun j h))]
          exact H.done j d hj hl h hd
        · obtain rfl := List.mem_singleton.1 h
          rcases H.sub j hj hl with h5 | h5
          · exact absurd h5 hkp
          · obtain ⟨e, he, hej⟩ := List.mem_map.1 h5
            obtain ⟨_, _, g3, _⟩ := H.ear e he
            rw [hej, hf] at g3; cases g3
      · rw [put_get _ _ _ _ (by have := hd k (by simp); rwa [hdk] at this)]
        exact H.full d fun j hj => hd j (List.mem_append_left _ hj)

theorem split_uniq {x p1 y y' : List Nat} {i : Nat} (hn : (p1 ++ i :: y').Nodup) (h : x ++ i :: y = p1 ++ i :: y') : x = p1 := by
  induction x generalizing p1 with
  | nil =>
    cases p1 with
    | nil => rfl
    | cons q p1 =>
      simp only [List.nil_append, List.cons_append, List.cons.injEq] at h
      obtain ⟨rfl, _⟩ := h
      exact absurd (by simp) (List.nodup_cons.1 hn).1
  | cons c x ih =>
    cases p1 with
    | nil =>
      simp only [List.nil_append, List.cons_append, List.cons.injEq] at h
      obtain ⟨rfl, h2⟩ := h
      rw [← h2] at hn
      exact absurd (by simp) (List.nodup_cons.1 hn).1
    | cons q p1 =>
      simp only [List.cons_append, List.cons.injEq] at h
      obtain ⟨rfl, h2⟩ := h
      rw [ih (List.nodup_cons.1 hn).2 h2]
theorem cert_listed {listed : Array Bool} (hB : linGo l fs A [] [] ord = true) (hin : ∀ j, j < l.length → j ∈ ord) (inv : HeadInv .any l.toArray l.length listed) : ∀ (k : Nat) (o : Oper), l[k]? = some o → (∀ e ∈ o.after, Region.binds .any e = true → listed.getD e.on false = true) →
    ∀ f ∈ A.getD k [], listed.getD f false = true := by
  intro k
  induction k using Nat.strongRecOn with
  | _ k ih =>
    intro o hko hd f hf
    obtain ⟨x, y, hx⟩ := List.append_of_mem (hin k (List.getElem?_eq_some_iff.1 hko).1)
    obtain ⟨o', hko', hok, -⟩ := linGo_spec ord [] [] hB x k y hx
    have : o' = o := by rw [hko] at hko'; exact (Option.some.inj hko').symm
    subst this
    obtain ⟨e, he, hb, h⟩ := hok.cert f hf
    have hl := hd e he hb
    rcases h with rfl | h
    · exact hl
    · have hlt := hok.back e he hb
      have hel : e.on < l.length := by have := (List.getElem?_eq_some_iff.1 hko).1; omega
      exact ih e.on hlt l[e.on] (by simp [hel]) (inv.closed e.on _ (by simp [hel]) hl) f h

theorem getD_tf {listed : Array Bool} {i : Nat} (hi : i < listed.size) (h : listed.getD i false = true) : listed.getD i true = true := by
  simp [hi] at h ⊢; exact h

theorem any_of_core (hB : linGo l fs A [] [] ord = true) (hnd : ord.Nodup) (hlt : ∀ j ∈ ord, j < l.length) (hin : ∀ j, j < l.length → j ∈ ord) (hAq : ∀ k, fs.contains k = false → fs.contains (k + 2000) = false) (hA : ∀ k, fs.contains (k + 2000) = true → ∃ o t z, l[k]? = some o ∧ o.guard = none ∧ IsAlloc P o t z) :
    ∀ (m : Nat) (pre suf : List Nat) (af : Act) (L Lq : List Ent) (E : List (Nat × Ent)) (listed : Array Bool) (a : Act) (w : World), left l.length listed = m → Core P l fs Q w0 ord a0 pre suf af L Lq E listed a w → wpAny P .any l.toArray Q m listed a w
  | 0, pre0, suf0, af0, L0, Lq, E0, listed, a, w, hm, H0 => by
    obtain ⟨pre, suf, af, L, E, H, hsuf⟩ := core_adv hB hnd hlt suf0 pre0 af0 H0
    have hall : ∀ j, j < l.length → listed.getD j true = true := fun j hj => by
      cases h : listed.getD j true with
      | true => rfl
      | false =>
        have : j ∈ (List.range l.length).filter fun i => !listed.getD i true := List.mem_filter.2 ⟨List.mem_range.2 hj, by rw [h]; rfl⟩
        rw [List.length_eq_zero_iff.1 hm] at this
        cases this
    have hr : Region.ready .any l.toArray listed = [] := by
      refine List.eq_nil_iff_forall_not_mem.2 fun i hi => ?_
      obtain ⟨h1, o, h2, _⟩ := mem_ready.1 hi
      rw [hall i (by have := (Array.getElem?_eq_some_iff.1 h2).1; simpa using this)] at h1; cases h1
    have hsuf2 : suf = [] := by
      rcases hsuf with h | ⟨k, r, hs, _, hE⟩
      · exact h
      · exfalso
        have hk : k ∈ ord := by rw [H.ord, hs]; simp
        rcases H.sub k (hlt k hk) (hall k (hlt k hk)) with this | this
        · have hnd' := hnd
          rw [H.ord, hs] at hnd'
          exact absurd rfl ((List.nodup_append.1 hnd').2.2 k this k (by simp))
        · exact hE this
    have hE : E = [] := List.eq_nil_iff_forall_not_mem.2 fun e he => by
      have := (H.ear e he).1
      rw [hsuf2] at this; cases this
    have hlin := H.lin
    rw [hsuf2] at hlin
    have hord := H.ord
    rw [hsuf2, List.append_nil] at hord
    have e1 : a = af := by
      have : a.tmps = af.tmps := by
        apply Array.ext_getElem?
        intro d
        by_cases hw : ∃ j, j < l.length ∧ dstAt l j = some d
        · obtain ⟨j, hj, hd⟩ := hw
          exact H.done j d hj (hall j hj) (by rw [← hord]; exact hin j hj) hd
        · have h1 : ∀ j, j < l.length → dstAt l j ≠ some d := fun j hj hd => hw ⟨j, hj, hd⟩
          rw [H.rest d fun j hj _ => h1 j hj, H.full d fun j hj => h1 j (hlt j (by rw [hord]; exact hj))]
      have h2 : a.defers = af.defers := by rw [H.defers, H.defersf]
      cases a; cases af
      simp_all
    subst e1
    have hmem := H.mem
    rw [hE] at hmem
    exact ⟨hr, hlin w (by simpa using hmem)⟩
  | m + 1, pre0, suf0, af0, L0, Lq, E0, listed, a, w, hm, H0 => by
    obtain ⟨pre, suf, af, L, E, H, hsuf⟩ := core_adv hB hnd hlt suf0 pre0 af0 H0
    have hmL : Mem w0 L w := H.mem.sub (List.sublist_append_right _ _)
    obtain ⟨i0, hi0, hun0, hmin⟩ : ∃ i, i < l.length ∧ listed.getD i true = false ∧ ∀ j, j < i → listed.getD j true = true := by
      have hne : ∃ i, i < l.length ∧ listed.getD i true = false := by
        cases hf : (List.range l.length).filter fun i => !listed.getD i true with
        | nil => rw [left, hf] at hm; cases hm
        | cons i r =>
          have : i ∈ (List.range l.length).filter fun i => !listed.getD i true := by rw [hf]; simp
          obtain ⟨h1, h2⟩ := List.mem_filter.1 this
          exact ⟨i, List.mem_range.1 h1, by simpa using h2⟩
      obtain ⟨i, h1, h2⟩ := hne
      induction i using Nat.strongRecOn with
      | _ i ih =>
        by_cases h : ∃ j, j < i ∧ listed.getD j true = false
        · obtain ⟨j, hj, hj2⟩ := h
          exact ih j hj (by omega) hj2
        · refine ⟨i, h1, h2, fun j hj => ?_⟩
          cases hh : listed.getD j true with
          | true => rfl
          | false => exact absurd ⟨j, hj, hh⟩ h
    have hsz : listed.size = l.length := by simpa using H.inv.size
    have ok : ∀ k, k < l.length → ∃ x y o, ord = x ++ k :: y ∧ l[k]? = some o ∧ OpOk l fs A (x.reverse ++ []) ((x.filter fun j => fs.contains j).reverse ++ []) k o := fun k hk => by
      obtain ⟨x, y, hx⟩ := List.append_of_mem (hin k hk)
      obtain ⟨o, ho, hok, -⟩ := linGo_spec ord [] [] hB x k y hx
      exact ⟨x, y, o, hx, ho, hok⟩
    have hready : i0 ∈ Region.ready .any l.toArray listed := by
      obtain ⟨x, y, o, _, ho, hok⟩ := ok i0 hi0
      refine mem_ready.2 ⟨hun0, o, by simpa using ho, fun e he hb => ?_⟩
      have h1 := hok.back e he hb
      have h2 := hmin e.on h1
      have h3 : e.on < listed.size := by omega
      simp [h3] at h2 ⊢; exact h2
    refine ⟨fun h => (by rw [h] at hready; cases hready), fun i hi => ?_⟩
    obtain ⟨hun, o', ho', hdep⟩ := mem_ready.1 hi
    have hin' : i < l.length := by have := (Array.getElem?_eq_some_iff.1 ho').1; simpa using this
    obtain ⟨x, y, o, hx, ho, hok⟩ := ok i hin'
    have : o' = o := by simpa [ho] using ho'.symm
    subst this
    have hleft : left l.length (listed.setIfInBounds i true) = m := by have := left_set hin' hun; omega
    have hdi : dstAt l i = o'.dst := by simp [dstAt, ho]
    have getne : ∀ j, j ≠ i → (listed.setIfInBounds i true).getD j true = listed.getD j true := fun j hji => getD_set_ne true (Ne.symm hji)
    have geti : (listed.setIfInBounds i true).getD i true = true := by simp [show i < listed.size by omega]
    have hone : ∀ j d, j < l.length → dstAt l j = some d → j ≠ i → o'.dst ≠ some d := hok.one
    have hlook0 : (∀ j ∈ x, j ∈ pre) → ∀ t ∈ o'.looksAt l.toArray, a.tmps[t]? = af.tmps[t]? := fun hpx t ht => by
      by_cases hw : ∃ j, j < l.length ∧ dstAt l j = some t
      · obtain ⟨j, hj, hd⟩ := hw
        obtain ⟨hjx, e, he, hb, hon⟩ := hok.reads j t hj hd ht
        have hl := hdep e he hb
        rw [hon] at hl
        rw [List.append_nil, List.mem_reverse] at hjx
        exact H.done j t hj (getD_tf (by omega) hl) (hpx j hjx) hd
      · have h1 : ∀ j, j < l.length → dstAt l j ≠ some t := fun j hj hd => hw ⟨j, hj, hd⟩
        rw [H.rest t fun j hj _ => h1 j hj, H.full t fun j hj => h1 j (hlt j (by rw [H.ord]; exact List.mem_append_left _ hj))]
    by_cases hip : i ∈ pre
    · -- a quiet operation
      have hpx : ∀ j ∈ x, j ∈ pre := fun j hj => by
        obtain ⟨p1, p2, hp⟩ := List.append_of_mem hip
        have h1 := H.ord
        rw [hp, hx, List.append_assoc, List.cons_append] at h1
        have hnd1 := hnd
        rw [hx] at hnd1
        have h2 : x = p1 := split_uniq (h1 ▸ hnd1) h1
        rw [hp, ← h2]; exact List.mem_append_left _ hj
      obtain ⟨ee, ew⟩ := looks_same hok.nosel (hlook0 hpx)
      obtain ⟨op, v, hop, hv1, hv2, hv3⟩ := H.pend i hip hun
      have : op = o' := by rw [ho] at hop; exact (Option.some.inj hop).symm
      subst this
      have hfi : fs.contains i = false := by
        cases h : fs.contains i with
        | false => rfl
        | true => have := H.fresh i hip h; rw [hun] at this; cases this
      have next : ∀ w', Mem w [] w' → wpAny P .any l.toArray Q m (listed.setIfInBounds i true) (a.put op.dst v) w' := fun w' hw' => by
        refine any_of_core hB hnd hlt hin hAq hA m pre suf af L Lq E _ _ w' hleft ⟨H.ord, H.inv.set hi hin', by simpa using H.mem.call hw', fun e he => ?_, H.keys, H.sees, H.lin, by rw [put_size]; exact H.size, H.sizef, by rw [put_def]; exact H.defers, H.defersf, fun j hj hl => ?_, fun j hj hf => ?_, fun j hj hl => ?_, fun j d hj hl hjp hd => ?_, fun d hd => ?_, H.full⟩
        · obtain ⟨g1, g2, g3, g4, oe, t, z, b, g5, g6, g7, g8⟩ := H.ear e he
          have hei : e.1 ≠ i := fun e2 => by
            have hnd' := hnd
            rw [H.ord] at hnd'
            exact (List.nodup_append.1 hnd').2.2 i hip e.1 g1 e2.symm
          refine ⟨g1, by rw [getne _ hei]; exact g2, g3, g4, oe, t, z, b, g5, g6, g7, fun d hd => ?_⟩
          have := g8 d hd
          unfold slotIs at this ⊢
          rw [put_get _ _ _ _ (hone e.1 d (List.getElem?_eq_some_iff.1 g5).1 (by simp [dstAt, g5, hd]) hei)]
          exact this
        · by_cases hji : j = i
          · subst hji; exact .inl hip
          · exact H.sub j hj (by rw [← getne j hji]; exact hl)
        · rw [getne j (fun e => by subst e; rw [hfi] at hf; cases hf)]; exact H.fresh j hj hf
        · exact H.pend j hj (by rw [← getne j (fun e => by subst e; rw [geti] at hl; cases hl)]; exact hl)
        · by_cases hji : j = i
          · subst hji
            rw [hdi] at hd
            have h2 := hv1 d hd
            rw [hd]
            have h3 : slotIs a0.tmps.size d v (a.put (some d) v) := slotIs_put H.size
            unfold slotIs at h2 h3
            rw [h2, h3]
          · rw [getne j hji] at hl
            rw [put_get _ _ _ _ (hone j d hj hd hji)]
            exact H.done j d hj hl hjp hd
        · have h1 : op.dst ≠ some d := by
            have := hd i hin' geti
            rwa [hdi] at this
          rw [put_get _ _ _ _ h1]
          refine H.rest d fun j hj hl => ?_
          by_cases hji : j = i
          · subst hji; rw [hdi]; exact h1
          · exact hd j hj (by rw [getne j hji]; exact hl)
      unfold wpOp
      simp only [ho']
      rw [ew]
      split
      · rename_i hwt
        have h1 := hv2 hwt w (by
          split
          · exact hmL
          · exact H.sees w hmL)
        refine .inl ?_
        unfold Oper.wp
        rw [ee]
        unfold Oper.quietAt at h1
        generalize (execOp af.eval op).run P w = r at h1
        unfold Oper.quietUpon at h1
        split at h1
        · obtain ⟨rfl, rfl⟩ := h1; exact next _ (Mem.init _)
        · obtain ⟨rfl, e⟩ := h1; rw [e] at next; exact next _ (Mem.init _)
        · obtain ⟨rfl, hcal⟩ := h1
          exact hcal.mono fun e w'' ⟨he, hm⟩ => by subst he; exact next _ hm
        · exact h1.elim
      · rename_i hwt
        have := hv3 (by simpa using hwt)
        rw [this] at next
        exact next w (Mem.init _)
    · -- what is to be made next
      have his : i ∈ suf := by
        have := hin i hin'
        rw [H.ord] at this
        exact (List.mem_append.1 this).resolve_left hip
      rcases hsuf with rfl | ⟨f, r, rfl, hff, hfE⟩
      · cases his
      have hdone : ∀ (v : Value) (j d : Nat), j < l.length → (listed.setIfInBounds i true).getD j true = true → j ∈ pre → dstAt l j = some d → (a.put o'.dst v).tmps[d]? = af.tmps[d]? := fun v j d hj hl hjp hd => by
        have hji : j ≠ i := fun e => hip (e ▸ hjp)
        rw [getne j hji] at hl
        rw [put_get _ _ _ _ (hone j d hj hd hji)]
        exact H.done j d hj hl hjp hd
      have hrest : ∀ (v : Value) (d : Nat), (∀ j, j < l.length → (listed.setIfInBounds i true).getD j true = true → dstAt l j ≠ some d) → (a.put o'.dst v).tmps[d]? = a0.tmps[d]? := fun v d hd => by
        have h1 : o'.dst ≠ some d := by
          have := hd i hin' geti
          rwa [hdi] at this
        rw [put_get _ _ _ _ h1]
        refine H.rest d fun j hj hl => ?_
        by_cases hji : j = i
        · subst hji; rw [hdi]; exact h1
        · exact hd j hj (by rw [getne j hji]; exact hl)
      have hnE : i ∉ E.map (·.1) := fun h => by
        obtain ⟨e, he, rfl⟩ := List.mem_map.1 h
        have := (H.ear e he).2.1
        rw [hun] at this; cases this
      have hear : ∀ (v : Value), ∀ e ∈ E, Early P l fs a0.tmps.size (f :: r) (listed.setIfInBounds i true) (a.put o'.dst v) e := fun v e he => by
        obtain ⟨g1, g2, g3, g4, oe, t, z, b, g5, g6, g7, g8⟩ := H.ear e he
        have hei : e.1 ≠ i := fun e2 => hnE (e2 ▸ List.mem_map_of_mem he)
        refine ⟨g1, by rw [getne _ hei]; exact g2, g3, g4, oe, t, z, b, g5, g6, g7, fun d hd => ?_⟩
        have := g8 d hd
        unfold slotIs at this ⊢
        rw [put_get _ _ _ _ (hone e.1 d (List.getElem?_eq_some_iff.1 g5).1 (by simp [dstAt, g5, hd]) hei)]
        exact this
      by_cases hif : i = f
      · subst hif
        have hpx : ∀ j ∈ x, j ∈ pre := fun j hj => by
          have h1 := H.ord
          rw [hx] at h1
          have hnd1 := hnd
          rw [hx] at hnd1
          have h2 : x = pre := split_uniq (h1 ▸ hnd1) h1
          rw [← h2]; exact hj
        obtain ⟨ee, ew⟩ := looks_same hok.nosel (hlook0 hpx)
        obtain ⟨of, hof, hl⟩ := H.lin
        have : of = o' := by rw [ho] at hof; exact (Option.some.inj hof).symm
        subst this
        rw [if_pos hff] at hl
        have next : ∀ v w' E' L' Lq', E' = E → (∀ e ∈ E, e.1 ∈ r) → Mem w0 (E'.map (·.2) ++ L') w' → (∀ w, Mem w0 L' w → Mem w0 Lq' w) → (∀ w, Mem w0 Lq' w → Mem w0 Lq w) → (fs.contains (i + 2000) = true → ∀ w, Mem w0 L' w → Mem w0 L w) → Lin P l fs Q w0 r (af.put of.dst v) L' Lq' → wpAny P .any l.toArray Q m (listed.setIfInBounds i true) (a.put of.dst v) w' := fun v w' E' L' Lq' hEE hEr g1 g2 g3 gal g4 => by
          subst hEE
          refine any_of_core hB hnd hlt hin hAq hA m (pre ++ [i]) r (af.put of.dst v) L' Lq' E' _ _ w' hleft ⟨by rw [H.ord]; simp, H.inv.set hi hin', g1, fun e he => ?_, H.keys, g2, g4, by rw [put_size]; exact H.size, by rw [put_size]; exact H.sizef, by rw [put_def]; exact H.defers, by rw [put_def]; exact H.defersf, fun j hj hlj => ?_, fun j hj hf => ?_, fun j hj hlj => ?_, fun j d hj hlj hjp hd => ?_, hrest v, fun d hd => ?_⟩
          · obtain ⟨g1', g2'⟩ := hear v e he
            exact ⟨hEr e he, g2'⟩
          · by_cases hji : j = i
            · subst hji; exact .inl (by simp)
            · exact (H.sub j hj (by rw [← getne j hji]; exact hlj)).imp_left fun h => List.mem_append_left _ h
          · rcases List.mem_append.1 hj with h | h
            · by_cases hji : j = i
              · subst hji; exact geti
              · rw [getne j hji]; exact H.fresh j h hf
            · obtain rfl := List.mem_singleton.1 h; exact geti
          · rcases List.mem_append.1 hj with h | h
            · have hji : j ≠ i := fun e => hip (e ▸ h)
              cases htj : fs.contains (j + 1000) with
              | true =>
                cases hali : fs.contains (i + 2000) with
                | true =>
                  have hp := H.pend j h (by rw [← getne j hji]; exact hlj)
                  rw [htj] at hp
                  simp only [if_true] at hp ⊢
                  exact pend_put hB hnd hlt H.ord ho h (gal hali) hp
                | false =>
                  exfalso
                  obtain ⟨oi, hoi, hoki, -⟩ := linGo_spec ord [] [] hB pre i r H.ord
                  have e1 : oi = of := by rw [ho] at hoi; exact (Option.some.inj hoi).symm
                  subst e1
                  have hja := hoki.tmp hff j (by rw [List.append_nil, List.mem_reverse]; exact h) htj
                  have hjl := cert_listed hB hin H.inv i oi ho hdep j hja
                  have hjo : j ∈ ord := by rw [H.ord]; exact List.mem_append_left _ h
                  have := getD_tf (by have := hlt j hjo; omega) hjl
                  rw [getne j hji] at hlj
                  rw [this] at hlj; cases hlj
              | false =>
                have hp := H.pend j h (by rw [← getne j hji]; exact hlj)
                rw [htj] at hp
                simp only [Bool.false_eq_true, if_false] at hp ⊢
                exact pend_put hB hnd hlt H.ord ho h g3 hp
            · obtain rfl := List.mem_singleton.1 h
              rw [geti] at hlj; cases hlj
          · rcases List.mem_append.1 hjp with h | h
            · have hji : j ≠ i := fun e => hip (e ▸ h)
              rw [put_get _ _ _ _ (hone j d hj hd hji), put_get _ _ _ _ (hone j d hj hd hji)]
              rw [getne j hji] at hlj
              exact H.done j d hj hlj h hd
            · obtain rfl := List.mem_singleton.1 h
              rw [hdi] at hd
              rw [hd]
              have h3 : slotIs a0.tmps.size d v (a.put (some d) v) := slotIs_put H.size
              have h4 : slotIs a0.tmps.size d v (af.put (some d) v) := slotIs_put H.sizef
              unfold slotIs at h3 h4
              rw [h3, h4]
          · have h1 : of.dst ≠ some d := by
              have := hd i (by simp)
              rwa [hdi] at this
            rw [put_get _ _ _ _ h1]
            exact H.full d fun j hj => hd j (List.mem_append_left _ hj)
        have hEr : ∀ e ∈ E, e.1 ∈ r := fun e he => by
          have := (H.ear e he).1
          exact (List.mem_cons.1 this).resolve_left fun e2 => hnE (e2 ▸ List.mem_map_of_mem he)
        cases hali : fs.contains (i + 2000) with
        | true =>
          rw [if_pos hali] at hl
          obtain ⟨hg, t, z, hAl, hlin⟩ := hl
          unfold wpOp
          simp only [ho']
          rw [if_pos (by simp [Region.wanted, hg])]
          refine .inl ?_
          unfold Oper.wp
          rw [hAl]
          refine next _ _ E (blk w.heap.size z.cells t :: L) Lq rfl hEr ?_ (fun w hw => H.sees w (hw.sub (List.sublist_cons_self _ _))) (fun _ h => h) (fun _ w hw => hw.sub (List.sublist_cons_self _ _)) (hlin _)
          exact (H.mem.alloc z.cells t).perm (List.perm_middle.symm)
        | false =>
          rw [if_neg (by rw [hali]; exact Bool.false_ne_true)] at hl
          obtain ⟨hg, hrun⟩ := hl
          have hE0 : E = [] := List.eq_nil_iff_forall_not_mem.2 fun e he => by
            obtain ⟨oi, hoi, hoki, hry⟩ := linGo_spec ord [] [] hB pre i r H.ord
            have h1 := hry hff hali e.1 (hEr e he)
            rw [(H.ear e he).2.2.2.1] at h1; cases h1
          have h1 := hrun w hmL
          have next2 : ∀ v w', (∃ L' Lq', Mem w0 L' w' ∧ (∀ w, Mem w0 L' w → Mem w0 Lq' w) ∧ (∀ w, Mem w0 Lq' w → Mem w0 Lq w) ∧ Lin P l fs Q w0 r (af.put of.dst v) L' Lq') → wpAny P .any l.toArray Q m (listed.setIfInBounds i true) (a.put of.dst v) w' := fun v w' ⟨L', Lq', g1, g2, g3, g4⟩ =>
            next v w' E L' Lq' rfl hEr (by rw [hE0]; simpa using g1) g2 g3 (fun h => by rw [hali] at h; cases h) g4
          unfold wpOp
          simp only [ho']
          rw [if_pos (by rw [ew]; exact hg)]
          refine .inl ?_
          unfold Oper.wp
          rw [ee]
          generalize (execOp af.eval of).run P w = r' at h1
          unfold upon at h1
          split at h1
          · exact next2 _ _ h1
          · exact next2 _ _ h1
          · obtain ⟨rfl, hcal⟩ := h1
            exact hcal.mono fun e w'' ⟨u, he, hR⟩ => by subst he; exact next2 u _ hR
          · exact h1.elim
      · have hir : i ∈ r := (List.mem_cons.1 his).resolve_left hif
        cases hali : fs.contains (i + 2000) with
        | false =>
          exfalso
          obtain ⟨r1, r2, rfl⟩ := List.append_of_mem hir
          have hx' : ord = (pre ++ f :: r1) ++ i :: r2 := by rw [H.ord]; simp
          obtain ⟨oi, hoi, hoki, -⟩ := linGo_spec ord [] [] hB _ i r2 hx'
          have e1 : oi = o' := by rw [ho] at hoi; exact (Option.some.inj hoi).symm
          subst e1
          have hfa := hoki.anc hali f (by
            rw [List.append_nil, List.mem_reverse, List.mem_filter]
            exact ⟨by simp, hff⟩)
          have hfl := cert_listed hB hin H.inv i oi ho hdep f hfa
          have hf' : f ∈ ord := by rw [H.ord]; simp
          rcases H.sub f (hlt f hf') (getD_tf (by have := hlt f hf'; omega) hfl) with hfp | hfp
          · have hnd' := hnd
            rw [H.ord] at hnd'
            exact (List.nodup_append.1 hnd').2.2 f hfp f (by simp) rfl
          · exact hfE hfp
        | true =>
          obtain ⟨oa, t, z, hoa, hga, hAl⟩ := hA i hali
          have e1 : oa = o' := by rw [ho] at hoa; exact (Option.some.inj hoa).symm
          subst e1
          have hfi : fs.contains i = true := by
            cases hfi : fs.contains i with
            | true => rfl
            | false =>
              exfalso
              obtain ⟨r1, r2, rfl⟩ := List.append_of_mem hir
              exact absurd hali (by rw [hAq i hfi]; exact Bool.false_ne_true)
          unfold wpOp
          simp only [ho']
          rw [if_pos (by simp [Region.wanted, hga])]
          refine .inl ?_
          unfold Oper.wp
          rw [hAl]
          refine any_of_core hB hnd hlt hin hAq hA m pre (f :: r) af L Lq ((i, blk w.heap.size z.cells t) :: E) _ _ _ hleft ⟨H.ord, H.inv.set hi hin', H.mem.alloc z.cells t, fun e he => ?_, List.nodup_cons.2 ⟨hnE, H.keys⟩, H.sees, H.lin, by rw [put_size]; exact H.size, H.sizef, by rw [put_def]; exact H.defers, H.defersf, fun j hj hl => ?_, fun j hj hf => ?_, fun j hj hl => ?_, hdone _, hrest _, H.full⟩
          · rcases List.mem_cons.1 he with rfl | he
            · exact ⟨his, geti, hfi, hali, oa, t, z, w.heap.size, ho, hAl, rfl, fun d hd => by rw [hd]; exact slotIs_put H.size⟩
            · exact hear _ e he
          · by_cases hji : j = i
            · subst hji; exact .inr (by simp)
            · exact (H.sub j hj (by rw [← getne j hji]; exact hl)).imp_right fun h => List.mem_cons_of_mem _ h
          · have hji : j ≠ i := fun e => hip (e ▸ hj)
            rw [getne j hji]; exact H.fresh j hj hf
          · have hji : j ≠ i := fun e => hip (e ▸ hj)
            exact H.pend j hj (by rw [← getne j hji]; exact hl)

theorem wp_region_lin2 {id : Nat} {ro : Option Nat} [Tame Q] {a : Act} {w : World} {L Lq : List Ent} (A : List (List Nat)) (ord : List Nat) (hnd : noDefer l = true) (hm : P.follows .mixedOrders = true) (hB : linB2 l fs A ord = true) (hC : Mem w0 L { w with drawn := w.drawn + 1 }) (hsub : ∀ w, Mem w0 L w → Mem w0 Lq w)
    (hAq : ∀ k, fs.contains k = false → fs.contains (k + 2000) = false) (hA : ∀ k, fs.contains (k + 2000) = true → ∃ o t z, l[k]? = some o ∧ o.guard = none ∧ IsAlloc P o t z)
    (h : Lin P l fs Q w0 ord a L Lq) : (Code.region id l.toArray true).wpIn (fen ro) 0 P Q a w := by
  simp only [linB2, Bool.and_eq_true, decide_eq_true_eq] at hB
  obtain ⟨⟨⟨h1, h2⟩, h3⟩, h4⟩ := hB
  have hin : ∀ j, j < l.length → j ∈ ord := fun j hj => by have := List.all_eq_true.1 h1 j (List.mem_range.2 hj); simpa using this
  have hlt : ∀ j ∈ ord, j < l.length := fun j hj => by have := List.all_eq_true.1 h3 j hj; simpa using this
  refine fen_region_any hnd hm ?_
  have inv0 : HeadInv .any l.toArray l.length (Array.replicate l.toArray.size false) :=
    ⟨by simp, fun j oj _ hl => (by rw [getD_replicate_false] at hl; cases hl), fun t h1 h2 => by simp at h2; omega⟩
  have hun : ∀ j, j < l.length → (Array.replicate l.toArray.size false).getD j true = false := fun j hj => by simp [hj]
  have hleft : left l.length (Array.replicate l.toArray.size false) = l.length := by
    unfold left
    rw [List.filter_eq_self.2 (fun j hj => ?_), List.length_range]
    rw [hun j (List.mem_range.1 hj)]; rfl
  have := any_of_core (P := P) (Q := Q) (w0 := w0) (a0 := a) h4 h2 hlt hin hAq hA l.length [] ord a L Lq [] (Array.replicate l.toArray.size false) a _ hleft
    ⟨rfl, inv0, hC, fun e he => (by cases he), List.nodup_nil, hsub, h, rfl, rfl, rfl, rfl, fun j hj hl => (by rw [hun j hj] at hl; cases hl), fun j hj => (by cases hj), fun j hj => (by cases hj), fun j d hj hl => (by rw [hun j hj] at hl; cases hl), fun _ _ => rfl, fun _ _ => rfl⟩
  simpa using this
theorem wp_region_lin {id : Nat} {ro : Option Nat} [Tame Q] {a : Act} {w : World} {L Lq : List Ent} (A : List (List Nat)) (ord : List Nat) (hnd : noDefer l = true) (hm : P.follows .mixedOrders = true) (hB : linB l fs A ord = true) (hC : Mem w0 L { w with drawn := w.drawn + 1 }) (hsub : ∀ w, Mem w0 L w → Mem w0 Lq w)
    (h : Lin P l fs Q w0 ord a L Lq) : (Code.region id l.toArray true).wpIn (fen ro) 0 P Q a w := by
  have h5 : ∀ k, fs.contains (k + 2000) = false := fun k => by
    simp only [linB, Bool.and_eq_true] at hB
    cases hk : fs.contains (k + 2000) with
    | false => rfl
    | true =>
      have := List.all_eq_true.1 hB.1.2 (k + 2000) (by simpa using hk)
      have := of_decide_eq_true this
      omega
  refine wp_region_lin2 A ord hnd hm ?_ hC hsub (fun k _ => h5 k) (fun k hk => by rw [h5 k] at hk; cases hk) h
  simp only [linB, linB2, Bool.and_eq_true] at hB ⊢
  exact ⟨hB.1.1, hB.2⟩
end
end Go.Eng

/- Steps that make or write memory, and the line of a region that draws its order. -/
namespace Go.Eng
open Go.RowKit
section
variable {P : Program} {N : Fra} {w0 : World} {env : Env} {L R R1 R2 : List Ent} {Q : Exit → Act → World → Prop} {d : Option Tmp} {ty : TypeId} {ps : String} {af : Array Edge} {gd : Option (Nat × Bool)} {K : Value → List Ent → Prop}
def Stp (P : Program) (N : Fra) (w0 : World) (env : Env) (L : List Ent) (o : Oper) (K : Value → List Ent → Prop) : Prop :=
  ∀ a w, Rep N env a → Mem w0 L w → upon P w (fun v w' => ∃ L', Mem w0 L' w' ∧ K v L') ((execOp a.eval o).run P w)
theorem st_run {o : Oper} (h : ∀ a w, Rep N env a → Mem w0 L w → ∃ v w' L', (execOp a.eval o).run P w = .ok (.value v) w' ∧ Mem w0 L' w' ∧ K v L') : Stp P N w0 env L o K := fun a w ha hw => by
  obtain ⟨v, w', L', h1, h2, h3⟩ := h a w ha hw
  rw [h1]; exact ⟨L', h2, h3⟩
theorem st_skip {o : Oper} (h : ∀ a w, Rep N env a → Mem w0 L w → ∃ w' L', (execOp a.eval o).run P w = .ok .skip w' ∧ Mem w0 L' w' ∧ K undef L') : Stp P N w0 env L o K := fun a w ha hw => by
  obtain ⟨w', L', h1, h2, h3⟩ := h a w ha hw
  rw [h1]; exact ⟨L', h2, h3⟩
theorem upon_mono {w : World} {R R' : Value → World → Prop} (h : ∀ v w, R v w → R' v w) {r : Result Next} (hr : upon P w R r) : upon P w R' r := by
  unfold upon at hr ⊢
  split at hr
  · exact h _ _ hr
  · exact h _ _ hr
  · exact ⟨hr.1, hr.2.mono fun e w'' ⟨v, he, hv⟩ => ⟨v, he, h _ _ hv⟩⟩
  · exact hr.elim
theorem st_mono {o : Oper} {K' : Value → List Ent → Prop} (h : Stp P N w0 env L o K') (hk : ∀ v L', K' v L' → ∃ L'', (∀ w, Mem w0 L' w → Mem w0 L'' w) ∧ K v L'') : Stp P N w0 env L o K := fun a w ha hw =>
  upon_mono (fun v _ ⟨L', h1, h2⟩ => by obtain ⟨L'', h3, h4⟩ := hk v L' h2; exact ⟨L'', h3 _ h1, h4⟩) (h a w ha hw)
theorem st_mem {o : Oper} (L' : List Ent) (h : ∀ w, Mem w0 L w → Mem w0 L' w) (hk : Stp P N w0 env L' o K) : Stp P N w0 env L o K := fun a w ha hw => hk a w ha (h w hw)
theorem st_r {o : Oper} {v : Value} (h : Ry P N w0 env L o v) (hk : K v L) : Stp P N w0 env L o K := st_run fun a w ha hw => ⟨v, w, L, h a w ha hw, hw, hk⟩
theorem st_callC {X : Type} {val : X → Value} {L' : X → List Ent} {pr : X → Prop} {pre : Prop} {f : FuncId} {xs : List Operand} {ts : Array TypeId} {vs : List Value} [hf : IsFn P f] (hx : evl env xs = some vs)
    [hc : FnC P f w0 L vs X val L' pr pre] (hp : pre) (hk : ∀ x, pr x → K (val x) (L' x)) :
    Stp P N w0 env L ⟨d, .call { callee := .value (.func f), args := xs.toArray, argTypes := ts }, ty, ps, af, gd⟩ K := fun a w ha hw => by
  rw [run_call hf w rfl, ha.evl hx]
  exact ⟨rfl, (hc.h hp w hw).mono fun e w' ⟨x, he, hpx, hm⟩ => ⟨val x, he, L' x, hm, hk x hpx⟩⟩
section
variable {α : Type} {enc : α → Array Value} {c : Nat} {s : Sv} {xs ys : List α}
theorem st_box {t : TypeId} {x : Operand} {v : Value} (hx : ev env x = some v) (hk : ∀ b, K ((.pointer (some ⟨b, 0, none⟩))) ((blk b v.cells t :: L))) :
    Stp P N w0 env L ⟨d, .box t x, ty, ps, af, none⟩ K :=
  st_run fun a w ha hw => ⟨_, _, _, by simp only [execOp, ha.ev hx, Instr.box, newVar, newRow, Sem.run_bind, newObj, Sem.run, Result.andThen, Sem.run_pure]; rfl, hw.alloc v.cells t, hk _⟩
theorem st_alloc {t : TypeId} {z : Value} [hz : ZeroT P t z] (hk : ∀ b, K ((.pointer (some ⟨b, 0, none⟩))) ((blk b z.cells t :: L))) :
    Stp P N w0 env L ⟨d, .alloc t, ty, ps, af, none⟩ K :=
  st_run fun a w ha hw => ⟨_, _, _, by simp only [execOp, Instr.alloc, newVar, newRow, Sem.run_bind, run_zeroValue' w hz, newObj, Sem.run, Result.andThen, Sem.run_pure]; rfl, hw.alloc z.cells t, hk _⟩
theorem st_boxA {t : TypeId} {x : Operand} {cs : Array Value} (hx : ev env x = some (.agg cs)) (hk : ∀ b, K ((.pointer (some ⟨b, 0, none⟩))) ((blk b cs t :: L))) :
    Stp P N w0 env L ⟨d, .box t x, ty, ps, af, none⟩ K := st_box hx hk
theorem st_allocA {t : TypeId} {cs : Array Value} [hz : ZeroT P t (.agg cs)] (hk : ∀ b, K ((.pointer (some ⟨b, 0, none⟩))) ((blk b cs t :: L))) :
    Stp P N w0 env L ⟨d, .alloc t, ty, ps, af, none⟩ K := st_alloc (z := .agg cs) hk
theorem st_store {t : TypeId} {x y : Operand} {i b o : Nat} {cs : Array Value} {T : TypeId} {v : Value} (hx : ev env x = some (.pointer (some ⟨b, o, none⟩))) (hy : ev env y = some v) [ht : OneT P t] [hh : Has L b cs T i] (ho : o < cs.size) (hv : v.oneCell' = true) {cs' : Array Value} {L' : List Ent} (hcs : cs.setIfInBounds o v = cs') [hu : Upd L i (blk b cs' T) L'] (hk : K undef (L')) :
    Stp P N w0 env L ⟨none, .store t x y, ty, ps, af, none⟩ K :=
  st_skip fun a w ha hw => by
    have hi := hh.h
    have hb := hw.block hi
    have hc : w.cell? ⟨b, o, none⟩ = some cs[o] := by rw [hw.cell hi]; simp [ho]
    have hf : w.frozen? ⟨b, o, none⟩ = false := frozen_of_row w b o cs T hb
    subst hcs
    refine ⟨w.setCell ⟨b, o, none⟩ v, _, ?_, ?_, hk⟩
    · have h1 : (storeCells ⟨b, o, none⟩ [v]).run P w = .ok () (w.setCell ⟨b, o, none⟩ v) := by
        have := run_storeCells_at (P := P) b o T [v] 0 cs w hb (by simp; omega) (by simpa using hv)
        rw [this, setCell_eq_setRow w b o cs T (0, 0) v hb]
        congr 2
        apply Array.ext'
        simp [List.set_eq_take_append_cons_drop, ho]
      have hcs : v.cells = #[v] := by cases v <;> simp_all [Value.oneCell', Value.cells]
      simp only [execOp, ha.ev hx, ha.ev hy, Instr.storeAt, Instr.sureAddr, storeVar, Sem.run_bind, Sem.run_pure, Result.andThen, run_sizeOf' w ht.size, hcs]
      simp [h1]
    · rw [setCell_eq_setRow w b o cs T (0, 0) v hb]
      rw [← hu.h]
      exact hw.setRow hi _
theorem st_storeN {t : TypeId} {x y : Operand} {i b o n : Nat} {cs vs : Array Value} {T : TypeId} (hx : ev env x = some (.pointer (some ⟨b, o, none⟩))) (hy : ev env y = some (.agg vs)) [ht : RowT P t n] [hh : Has L b cs T i] [hs : SizeIs vs n] (ho : o + n ≤ cs.size) {cs' : Array Value} {L' : List Ent} (hcs : over cs o vs = cs') [hu : Upd L i (blk b cs' T) L'] (hk : K undef (L')) :
    Stp P N w0 env L ⟨none, .store t x y, ty, ps, af, none⟩ K :=
  st_skip fun a w ha hw => by
    have hi := hh.h
    have hn := hs.h
    have hv := hs.one
    have hb := hw.block hi
    subst hcs
    refine ⟨_, _, ?_, by rw [← hu.h]; exact hw.setRow hi _, hk⟩
    have h1 := run_storeCells_at (P := P) b o T vs.toList 0 cs w hb (by simp; omega) (fun v hv' => (Array.all_eq_true_iff_forall_mem.1 hv) v (by simpa using hv'))
    simp only [execOp, ha.ev hx, ha.ev hy, Instr.storeAt, Instr.sureAddr, storeVar, Value.cells, Sem.run_bind, Sem.run_pure, Result.andThen, run_sizeOf' w ht.size, hn]
    simp [h1, over]
theorem st_storeW {t : TypeId} {x y : Operand} {i b n : Nat} {cs vs : Array Value} {T : TypeId} (hx : ev env x = some (.pointer (some ⟨b, 0, none⟩))) (hy : ev env y = some (.agg vs)) [ht : RowT P t n] [hh : Has L b cs T i] [hs : SizeIs vs n] [hc : SizeIs cs n] {L' : List Ent} [hu : Upd L i (blk b vs T) L'] (hk : K undef (L')) :
    Stp P N w0 env L ⟨none, .store t x y, ty, ps, af, none⟩ K := by
  have hn := hs.h
  have hc' := hc.h
  refine st_storeN hx hy (by omega) (?_ : over cs 0 vs = vs) hk
  apply Array.ext'
  simp [over]; omega
theorem st_copy {x y : Operand} {tx tys e : TypeId} {i b o dl dc sl sc : Nat} {a : Addr} {cs vs : Array Value} {T : TypeId} (hx : ev env x = some (.slice (some ⟨b, o, none⟩) dl dc)) (hy : ev env y = some (.slice (some a) sl sc))
    [ht : SliceT P tx e 1] [hh : Has L b cs T i] (hn : vs.size = Nat.min sl dl) (hsrc : ∀ w, Mem w0 L w → ∀ j, j < vs.size → w.cell? (a.add j) = vs[j]?) (hv : vs.all (·.oneCell') = true) (ho : o + vs.size ≤ cs.size)
    {cs' : Array Value} {L' : List Ent} (hcs : over cs o vs = cs') [hu : Upd L i (blk b cs' T) L'] (hk : K ((.int .i64 vs.size)) (L')) :
    Stp P N w0 env L ⟨d, .call { callee := .builtin .copy, args := #[x, y], argTypes := #[tx, tys] }, ty, ps, af, none⟩ K :=
  st_run fun aa w ha hw => by
    have hi := hh.h
    have hb := hw.block hi
    subst hcs
    have hrun := run_copy_row (P := P) w tx tys ty e b o dl dc a sl sc cs T vs.toList ht.und ht.size hb (by simpa using hn)
      (fun j v hv' => by
        have hj : j < vs.size := by simpa using (List.getElem?_eq_some_iff.1 hv').1
        rw [hsrc w hw j hj]; simpa using hv') (by simpa using ho) (fun v hv' => (Array.all_eq_true_iff_forall_mem.1 hv) v (by simpa using hv'))
    refine ⟨_, w.setRow b (over cs o vs), _, ?_, by rw [← hu.h]; exact hw.setRow hi _, hk⟩
    simp [execOp, ha.ev hx, ha.ev hy, resolve, invoke, builtin, hrun, Result.andThen, goInt, over]
theorem st_append {t tx e : TypeId} {x y : Operand} {yv : Value} {by' i : Nat} [ht : SlT P t e c by'] [he : Enc enc c] (hx : ev env x = some s.val) (hy : ev env y = some yv) [q : Owns L s enc c xs i] (hc : 0 < c)
    (hs : ∀ w, Mem w0 L w → Src P c tx yv ys.length (flatR enc ys) w) (hb : (xs.length + ys.length) * by' ≤ 140737488355328) (h63 : xs.length + ys.length ≤ 140737488355328) {L' : Sv → List Ent} [hu : ∀ s', Upd L i (own enc c s' (xs ++ ys)) (L' s')]
    (hk : ∀ s' : Sv, s'.Ok → s'.len = (xs ++ ys).length → K (s'.val) ((L' s'))) :
    Stp P N w0 env L ⟨d, .call { callee := .builtin .append, args := #[x, y], argTypes := #[t, tx] }, ty, ps, af, none⟩ K :=
  st_run fun a w ha hw => by
    obtain ⟨s', w', h1, h2, h3, h4⟩ := append_own (ty := ty) ht hc hw q.h (hs w hw) hb h63
    refine ⟨s'.val, w', L' s', ?_, by rw [← (hu s').h]; exact h4, hk s' h2 h3⟩
    simp [execOp, ha.ev hx, ha.ev hy, resolve, invoke, builtin, h1, Result.andThen]
theorem st_buildSlice {t e : TypeId} {by' n : Nat} [ht : SlT P t e c by'] [he : Enc enc c] {ops : List (Nat × Operand)} {vals : List Value} (xs : List α) (hx : evp env ops = some (idx vals 0)) (hv : vals.map Value.cells = xs.map enc) (hn : xs.length = n) (hc : 0 < n * c) (h24 : n * c ≤ 16777216)
    (hk : ∀ b, K ((Sv.val ⟨false, b, 0, n, n, none⟩)) ((own enc c ⟨false, b, 0, n, n, none⟩ xs :: L))) :
    Stp P N w0 env L ⟨d, .buildSlice t n ops.toArray, ty, ps, af, none⟩ K :=
  st_run fun a w ha hw => by
    subst hn
    have e1 : (ops.toArray.map fun (p : Nat × Operand) => match p with | (i, x) => (i, a.eval x)) = (idx vals 0).toArray := by
      rw [← ha.evp hx]; simp
    refine ⟨_, _, _, ?_, hw.call (mem_new (enc := enc) (c := c) (xs := xs) (cs := (flatR enc xs).toArray) (e := e) rfl xs.length xs.length rfl (Nat.le_refl _) (len24 hc h24) (by simp [flatR_length]) fun i x hx j hj => by rw [← flatR_get (enc := enc) xs i x hx j hj]; simp), hk _⟩
    simp only [execOp, e1, Sem.run_bind, run_buildSlice ht hv hc h24 w, Result.andThen, Sem.run_pure]; rfl
theorem st_makeS {t e : TypeId} {by' n cap : Nat} {z : Value} {x y : Operand} {k k' : IntKind} {ix iy : Int} [ht : SlT P t e c by'] [hz : ZeroT P e z] (x0 : α) (h0 : enc x0 = z.cells) (hx : ev env x = some (.int k ix)) (hy : ev env y = some (.int k' iy)) (ex : ix = (n : Int)) (ey : iy = (cap : Int)) (hle : n ≤ cap) (hb : by' * cap ≤ 281474976710656) (h63 : cap ≤ 140737488355328)
    (hk : ∀ b, K ((Sv.val ⟨false, b, 0, n, cap, none⟩)) ((own enc c ⟨false, b, 0, n, cap, none⟩ (List.replicate n x0) :: L))) :
    Stp P N w0 env L ⟨d, .makeSlice t x y, ty, ps, af, none⟩ K :=
  st_run fun a w ha hw => by
    subst ex ey
    obtain ⟨w', h1, h2⟩ := run_makeS ht hz (k := k) (k' := k') (n := n) x0 h0 hle hb h63 w
    exact ⟨_, w', _, by simp only [execOp, ha.ev hx, ha.ev hy, Sem.run_bind, h1, Result.andThen, Sem.run_pure], hw.call h2, hk _⟩
theorem st_storeS {t : TypeId} {x y : Operand} {i k j n p : Nat} {a a' : α} {v : Value} (sz : (P.info? t).map (·.size) = some n) [he : Enc enc c] (hx : ev env x = some (.pointer (some ⟨s.b, p, none⟩))) (hy : ev env y = some v) [q : Owns L s enc c xs i] (hp' : p = s.o + k * c + j)
    (ha : xs[k]? = some a) (hv : v.cells.all (·.oneCell') = true) (hn : v.cells.size = n) (hj : j + n ≤ c) (he' : over (enc a) j v.cells = enc a') {L' : List Ent} [hu : Upd L i (own enc c s (xs.set k a')) L'] (hk : K undef (L')) :
    Stp P N w0 env L ⟨none, .store t x y, ty, ps, af, none⟩ K :=
  st_skip fun aa w haa hw => by
    subst hp' hn
    obtain ⟨w', h1, h2⟩ := mem_store (P := P) hw q ha hv hj he' hu
    refine ⟨w', _, ?_, h2, hk⟩
    simp only [execOp, haa.ev hx, haa.ev hy, Instr.storeAt, Instr.sureAddr, storeVar, Sem.run_bind, Sem.run_pure, Result.andThen, run_sizeOf' w sz]
    simp [h1]
theorem st_strb {s t e : TypeId} {x : Operand} {xs : List UInt8} (hs : P.underlying s = some .string) (hd : P.underlying t = some (.slice e)) (he : P.underlying e = some (.int .u8)) (hx : ev env x = some (.string ⟨xs.toArray⟩)) (hl : xs.length ≤ 140737488355328)
    (hk : ∀ sv, K ((Sv.val sv)) ((own benc 1 sv xs :: L))) :
    Stp P N w0 env L ⟨d, .convert s t x, ty, ps, af, none⟩ K :=
  st_run fun a w ha hw => by
    obtain ⟨sv, w', h1, h2⟩ := run_strb hs hd he xs hl w
    exact ⟨_, w', _, by simp only [execOp, ha.ev hx, Sem.run_bind, h1, Result.andThen, Sem.run_pure], hw.call h2, hk sv⟩
theorem st_build0 {t e : TypeId} {by' : Nat} (enc : α → Array Value) [ht : SlT P t e c by'] [he : Enc enc c] (hk : ∀ b, K ((Sv.val ⟨false, b, 0, 0, 0, none⟩)) ((own enc c ⟨false, b, 0, 0, 0, none⟩ [] :: L))) :
    Stp P N w0 env L ⟨d, .buildSlice t 0 #[], ty, ps, af, none⟩ K :=
  st_run fun a w _ hw => by
    refine ⟨_, _, _, ?_, hw.call (mem_new (enc := enc) (c := c) (xs := []) (cs := #[]) (e := e) rfl 0 0 rfl (Nat.le_refl _) (Nat.zero_le _) (by simp) (by simp)), hk _⟩
    simp only [execOp, Sem.run_bind, List.map_toArray, List.map_nil, run_build0 ht w, Result.andThen, Sem.run_pure]; rfl
theorem st_appendG {α : Type} {enc : α → Array Value} {c : Nat} {s : Sv} {xs ys : List α} {t tx e : TypeId} {x y : Operand} {yv : Value} {by' : Nat} [ht : SlT P t e c by'] [he : Enc enc c] (R : List Ent) (hx : ev env x = some s.val) (hy : ev env y = some yv)
    (ho : ∀ w, Mem w0 L w → Mem w0 (own enc c s xs :: R) w) (hc : 0 < c) (hs : ∀ w, Mem w0 L w → Src P c tx yv ys.length (flatR enc ys) w) (hb : (xs.length + ys.length) * by' ≤ 140737488355328) (h63 : xs.length + ys.length ≤ 140737488355328)
    (hk : ∀ s' : Sv, K (s'.val) ((own enc c s' (xs ++ ys) :: R))) :
    Stp P N w0 env L ⟨d, .call { callee := .builtin .append, args := #[x, y], argTypes := #[t, tx] }, ty, ps, af, none⟩ K :=
  st_run fun a w ha hw => by
    obtain ⟨s', w', h1, h2, h3, h4⟩ := append_own (i := 0) (ty := ty) ht hc (ho w hw) rfl (hs w hw) hb h63
    refine ⟨s'.val, w', _, ?_, by simpa using h4, hk s'⟩
    simp [execOp, ha.ev hx, ha.ev hy, resolve, invoke, builtin, h1, Result.andThen]
theorem st_storeSv {P : Program} {N : Fra} {w0 : World} {env : Env} {L : List Ent} {ty : TypeId} {ps : String} {af : Array Edge} {τ : Type} {t : TypeId} {x y : Operand} {i k p : Nat} {s : Sv} {xs : List (Sl τ)} {a : Sl τ} (a' : Sl τ)
    (sz : (P.info? t).map (·.size) = some 1) (hx : ev env x = some (.pointer (some ⟨s.b, p, none⟩))) (hy : ev env y = some a'.sv.val) [q : Owns L s (scells (τ := τ)) 1 xs i] (hp' : p = s.o + k * 1) (ha : xs[k]? = some a) {L' : List Ent} [hu : Upd L i (own scells 1 s (xs.set k a')) L'] (hk : K undef (L')) :
    Stp P N w0 env L ⟨none, .store t x y, ty, ps, af, none⟩ K :=
  st_storeS (j := 0) (a' := a') sz hx hy (q := q) hp' ha (by rw [Sv.cells_val]; simp [Sv.one]) (by rw [Sv.cells_val]; rfl) (by decide) (by rw [Sv.cells_val]; rfl) hk
theorem st_copyS {α : Type} {enc : α → Array Value} {x y : Operand} {tx tys e : TypeId} {i b o dl dc : Nat} {sv : Sv} {ys : List α} {cs : Array Value} {T : TypeId} (hx : ev env x = some (.slice (some ⟨b, o, none⟩) dl dc)) (hy : ev env y = some sv.val)
    [ht : SliceT P tx e 1] [hh : Has L b cs T i] [q : Hd w0 L sv enc 1 ys] [he : Enc enc 1] (h0 : 0 < ys.length) (hl : ys.length ≤ dl) (ho : o + ys.length ≤ cs.size)
    {cs' : Array Value} {L' : List Ent} (hcs : over cs o (flatR enc ys).toArray = cs') [hu : Upd L i (blk b cs' T) L'] (hk : K ((.int .i64 (ys.length : Nat))) (L')) :
    Stp P N w0 env L ⟨d, .call { callee := .builtin .copy, args := #[x, y], argTypes := #[tx, tys] }, ty, ps, af, none⟩ K := fun a w ha hw => by
  have r := q.h w hw
  have hn := r.some (i := 0) h0
  have hlen := r.len
  rw [Sv.val_some hn, r.ok.sp (by have := r.ok.le; omega)] at hy
  have hs : (flatR enc ys).toArray.size = ys.length := by rw [List.size_toArray, flatR_length, Nat.mul_one]
  have hk' := hk
  rw [← hs] at hk'
  refine st_copy (vs := (flatR enc ys).toArray) hx hy ?_ (fun w hw j hj => ?_) ?_ (by rw [hs]; exact ho) hcs hk' a w ha hw
  · rw [hs]; simp only [Nat.min_def]; split <;> omega
  · rw [hs] at hj
    have := flatR_get (enc := enc) ys j ys[j] (by simp [hj]) 0 (by decide)
    have r2 := (q.h w hw).row j ys[j] (by simp [hj]) 0 (by decide)
    simp only [Nat.mul_one, Nat.add_zero] at this r2
    rw [Addr.add_none, cell_hp, r2, ← this]; simp
  · rw [Array.all_eq_true_iff_forall_mem]; intro v hv; exact flatR_one (enc := enc) ys v (by simpa using hv)
end

theorem st_own0 {o : Oper} {α : Type} (enc : α → Array Value) (c : Nat) (h : Stp P N w0 env (own enc c Sv.none [] :: L) o K) : Stp P N w0 env L o K := fun a w ha hw => h a w ha (hw.nilOwn enc c)
section
variable {τ : Type} [dp : Deep τ] {enc : τ → Array Value} {c : Nat}
theorem st_ownD0 {o : Oper} (τ : Type) [Deep τ] {enc : τ → Array Value} {c : Nat} [f : FlatT τ enc c] (h : Stp P N w0 env (Deep.ent (⟨Sv.none, []⟩ : Sl τ) :: L) o K) : Stp P N w0 env L o K := fun a w ha hw => h a w ha (Mem.nilEnt (enc := enc) (c := c) hw)
theorem st_appendD {s : Sv} {t tx e e' : TypeId} {x y : Operand} {by' m : Nat} [f : FlatT τ enc c] [ht : SlT P t e c by'] [ht' : SliceT P tx e' m] [he : Enc enc c] (a : Sl τ) (ys : List τ) (hx : ev env x = some a.sv.val) (hy : ev env y = some s.val) [q : Hd w0 L s enc c ys]
    [k1 : Take L a R1] [k2 : TakeL R1 ys R2] (hc : 0 < c) (hb : (a.xs.length + ys.length) * by' ≤ 140737488355328) (h63 : a.xs.length + ys.length ≤ 140737488355328)
    (hk : ∀ a' : Sl τ, a'.xs = a.xs ++ ys → K a'.sv.val (Deep.ent a' :: R2)) :
    Stp P N w0 env L ⟨d, .call { callee := .builtin .append, args := #[x, y], argTypes := #[t, tx] }, ty, ps, af, none⟩ K :=
  st_mono (st_appendG (K := fun v L' => ∃ s', v = Sv.val s' ∧ L' = own enc c s' (a.xs ++ ys) :: (a.xs.map dp.ent ++ (ys.map dp.ent ++ R2))) (enc := enc) (c := c) (xs := a.xs) (ys := ys) (a.xs.map dp.ent ++ (ys.map dp.ent ++ R2)) hx hy (fun w hw => ((k1.h.trans (k2.h.cons _)).trans Tr.open_d).mem hw) hc (fun w hw => src_rows ht'.und hc (q.h w hw)) hb h63
    (fun s' => ⟨s', rfl, rfl⟩)) fun v L' ⟨s', hv, hL⟩ => ⟨Deep.ent (⟨s', a.xs ++ ys⟩ : Sl τ) :: R2, fun w hw => by
      have t1 : Tr (own enc c s' (a.xs ++ ys) :: (a.xs.map dp.ent ++ (ys.map dp.ent ++ R2))) (Deep.ent (⟨s', a.xs ++ ys⟩ : Sl τ) :: R2) := by
        have := Tr.shut_d (enc := enc) (c := c) (a := (⟨s', a.xs ++ ys⟩ : Sl τ)) (L := R2)
        simpa using this
      rw [hL] at hw
      exact t1.mem hw, by rw [hv]; exact hk ⟨s', a.xs ++ ys⟩ rfl⟩
end
theorem sq_st {l : List Oper} {rest : List Oper} {o : Oper} (hg : o.guard = none) (hd : dstOk N o.dst = true) (h : Stp P N w0 env L o (fun v L' => Sq P N w0 l Q rest (putE env o.dst v) L')) : Sq P N w0 l Q (o :: rest) env L := fun a w ha hw => by
  unfold wpList
  rw [if_pos (wanted_none hg)]
  refine .inl ?_
  have h1 := h a w ha hw
  unfold Oper.wp
  generalize (execOp a.eval o).run P w = r at h1
  unfold upon at h1
  split at h1
  · obtain ⟨L', h2, h3⟩ := h1; exact h3 _ _ (ha.put hd _) h2
  · obtain ⟨L', h2, h3⟩ := h1; exact h3 _ _ (ha.put hd _) h2
  · obtain ⟨rfl, hc⟩ := h1
    exact hc.mono fun e w'' ⟨v, he, L', h2, h3⟩ => by subst he; exact h3 _ _ (ha.put hd _) h2
  · exact h1.elim
end

/-! The line of a region. -/
section
variable {P : Program} {N : Fra} {w0 : World} {env : Env} {L Lq : List Ent} {l : List Oper} {fs ord : List Nat} {Q : Exit → Act → World → Prop} {k : Nat} {o : Oper}
def Ln (P : Program) (N : Fra) (w0 : World) (l : List Oper) (fs : List Nat) (Q : Exit → Act → World → Prop) (ord : List Nat) (env : Env) (L Lq : List Ent) : Prop := ∀ a, Rep N env a → Lin P l fs Q w0 ord a L Lq
theorem ln_nil (h : Ex N w0 Q .normal env L) : Ln P N w0 l fs Q [] env L Lq := fun a ha w hw => h a w ha hw
theorem ln_quiet {v : Value} (ho : l[k]? = some o) (hf : fs.contains k = false) (hd : dstOk N o.dst = true) (h1 : ∀ a, Rep N env a → Region.wanted o (yielded l.toArray a.tmps) = true → quietR P o a (Mem w0 Lq) v) (h2 : ∀ a, Rep N env a → Region.wanted o (yielded l.toArray a.tmps) = false → v = undef)
    (hk : Ln P N w0 l fs Q ord (putE env o.dst v) L Lq) (hf2 : fs.contains (k + 1000) = false := by rfl) : Ln P N w0 l fs Q (k :: ord) env L Lq := fun a ha =>
  ⟨o, ho, by
    rw [if_neg (by rw [hf]; exact Bool.false_ne_true)]
    exact ⟨v, by rw [if_neg (by rw [hf2]; exact Bool.false_ne_true)]; exact h1 a ha, h2 a ha, hk _ (ha.put hd v)⟩⟩
theorem lt_y {v : Value} (ho : l[k]? = some o) (h : Yl P N w0 env L o v) (hk : Ln P N w0 l fs Q ord (putE env o.dst v) L Lq) (hg : o.guard = none := by rfl) (hd : dstOk N o.dst = true := by rfl) (hf : fs.contains k = false := by rfl) (hf2 : fs.contains (k + 1000) = true := by rfl) : Ln P N w0 l fs Q (k :: ord) env L Lq := fun a ha =>
  ⟨o, ho, by
    rw [if_neg (by rw [hf]; exact Bool.false_ne_true)]
    exact ⟨v, fun _ => by rw [if_pos hf2]; exact h a ha, (fun hw => by rw [wanted_none hg] at hw; cases hw), hk _ (ha.put hd v)⟩⟩
theorem lt_r {v : Value} (ho : l[k]? = some o) (h : Ry P N w0 env L o v) (hk : Ln P N w0 l fs Q ord (putE env o.dst v) L Lq) (hg : o.guard = none := by rfl) (hd : dstOk N o.dst = true := by rfl) (hf : fs.contains k = false := by rfl) (hf2 : fs.contains (k + 1000) = true := by rfl) : Ln P N w0 l fs Q (k :: ord) env L Lq := lt_y ho h.yl hk hg hd hf hf2
theorem ln_y {v : Value} (ho : l[k]? = some o) (h : Yl P N w0 env Lq o v) (hk : Ln P N w0 l fs Q ord (putE env o.dst v) L Lq) (hg : o.guard = none := by rfl) (hd : dstOk N o.dst = true := by rfl) (hf : fs.contains k = false := by rfl) (hf2 : fs.contains (k + 1000) = false := by rfl) : Ln P N w0 l fs Q (k :: ord) env L Lq :=
  ln_quiet (hf2 := hf2) ho hf hd (fun a ha _ => h a ha) (fun a ha hw => by rw [wanted_none hg] at hw; cases hw) hk
theorem ln_r {v : Value} (ho : l[k]? = some o) (h : Ry P N w0 env Lq o v) (hk : Ln P N w0 l fs Q ord (putE env o.dst v) L Lq) (hg : o.guard = none := by rfl) (hd : dstOk N o.dst = true := by rfl) (hf : fs.contains k = false := by rfl) (hf2 : fs.contains (k + 1000) = false := by rfl) : Ln P N w0 l fs Q (k :: ord) env L Lq := ln_y ho h.yl hk hg hd hf hf2
theorem ln_gt {v : Value} {j t : Nat} {g : Bool} (ho : l[k]? = some o) (hg : o.guard = some (j, true)) (hj : (l[j]?).bind (·.dst) = some t) (hv : look env t = some (.bool g)) (h : g = true → Yl P N w0 env Lq o v)
    (hk : Ln P N w0 l fs Q ord (putE env o.dst (if g = true then v else undef)) L Lq) (hd : dstOk N o.dst = true := by rfl) (hf : fs.contains k = false := by rfl) (hf2 : fs.contains (k + 1000) = false := by rfl) : Ln P N w0 l fs Q (k :: ord) env L Lq :=
  ln_quiet (hf2 := hf2) ho hf hd (fun a ha hw => by
    rw [wanted_some ha hg hj hv] at hw
    cases g
    · cases hw
    · exact h rfl a ha) (fun a ha hw => by
    rw [wanted_some ha hg hj hv] at hw
    cases g
    · rfl
    · cases hw) hk
theorem ln_gf {v : Value} {j t : Nat} {g : Bool} (ho : l[k]? = some o) (hg : o.guard = some (j, false)) (hj : (l[j]?).bind (·.dst) = some t) (hv : look env t = some (.bool g)) (h : (!g) = true → Yl P N w0 env Lq o v)
    (hk : Ln P N w0 l fs Q ord (putE env o.dst (if (!g) = true then v else undef)) L Lq) (hd : dstOk N o.dst = true := by rfl) (hf : fs.contains k = false := by rfl) (hf2 : fs.contains (k + 1000) = false := by rfl) : Ln P N w0 l fs Q (k :: ord) env L Lq :=
  ln_quiet (hf2 := hf2) ho hf hd (fun a ha hw => by
    rw [wanted_some ha hg hj hv] at hw
    cases g
    · exact h rfl a ha
    · cases hw) (fun a ha hw => by
    rw [wanted_some ha hg hj hv] at hw
    cases g
    · cases hw
    · rfl) hk
theorem ln_nt {v : Value} {j t : Nat} {c g : Bool} (ho : l[k]? = some o) (hg : o.guard = some (j, true)) (hj : (l[j]?).bind (·.dst) = some t) (hv : look env t = some (if c = true then .bool g else undef)) (h : (c && g) = true → Yl P N w0 env Lq o v)
    (hk : Ln P N w0 l fs Q ord (putE env o.dst (if (c && g) = true then v else undef)) L Lq) (hd : dstOk N o.dst = true := by rfl) (hf : fs.contains k = false := by rfl) (hf2 : fs.contains (k + 1000) = false := by rfl) : Ln P N w0 l fs Q (k :: ord) env L Lq :=
  ln_quiet (hf2 := hf2) ho hf hd (fun a ha hw => by
    rw [wanted_nest ha hg hj hv] at hw
    cases c <;> cases g <;> first | exact h rfl a ha | cases hw) (fun a ha hw => by
    rw [wanted_nest ha hg hj hv] at hw
    cases c <;> cases g <;> first | rfl | cases hw) hk
theorem ln_nf {v : Value} {j t : Nat} {c g : Bool} (ho : l[k]? = some o) (hg : o.guard = some (j, false)) (hj : (l[j]?).bind (·.dst) = some t) (hv : look env t = some (if c = true then .bool g else undef)) (h : (c && !g) = true → Yl P N w0 env Lq o v)
    (hk : Ln P N w0 l fs Q ord (putE env o.dst (if (c && !g) = true then v else undef)) L Lq) (hd : dstOk N o.dst = true := by rfl) (hf : fs.contains k = false := by rfl) (hf2 : fs.contains (k + 1000) = false := by rfl) : Ln P N w0 l fs Q (k :: ord) env L Lq :=
  ln_quiet (hf2 := hf2) ho hf hd (fun a ha hw => by
    rw [wanted_nest ha hg hj hv] at hw
    cases c <;> cases g <;> first | exact h rfl a ha | cases hw) (fun a ha hw => by
    rw [wanted_nest ha hg hj hv] at hw
    cases c <;> cases g <;> first | rfl | cases hw) hk
theorem ln_ty {v : Value} {j t : Nat} {b g : Bool} (ho : l[k]? = some o) (hg : o.guard = some (j, b)) (hj : (l[j]?).bind (·.dst) = some t) (hv : look env t = some (.bool g)) (ht : g = b) (h : Yl P N w0 env Lq o v)
    (hk : Ln P N w0 l fs Q ord (putE env o.dst v) L Lq) (hd : dstOk N o.dst = true := by rfl) (hf : fs.contains k = false := by rfl) (hf2 : fs.contains (k + 1000) = false := by rfl) : Ln P N w0 l fs Q (k :: ord) env L Lq :=
  ln_quiet (hf2 := hf2) ho hf hd (fun a ha _ => h a ha) (fun a ha hw => by
    rw [wanted_some ha hg hj hv, ht, beq_self_eq_true] at hw; cases hw) hk
theorem ln_st' (ho : l[k]? = some o) (h : Stp P N w0 env L o fun v L' => ∃ Lq', (∀ w, Mem w0 L' w → Mem w0 Lq' w) ∧ (∀ w, Mem w0 Lq' w → Mem w0 Lq w) ∧ Ln P N w0 l fs Q ord (putE env o.dst v) L' Lq') (hg : o.guard = none := by rfl) (hd : dstOk N o.dst = true := by rfl) (hf : fs.contains k = true := by rfl) (hf3 : fs.contains (k + 2000) = false := by rfl) : Ln P N w0 l fs Q (k :: ord) env L Lq := fun a ha =>
  ⟨o, ho, by
    rw [if_pos hf, if_neg (by rw [hf3]; exact Bool.false_ne_true)]
    exact ⟨wanted_none hg, fun w hw => upon_mono (fun v w' ⟨L', h1, Lq', h2, h3, h4⟩ => ⟨L', Lq', h1, h2, h3, h4 _ (ha.put hd v)⟩) (h a w ha hw)⟩⟩
theorem ln_stT {j t : Nat} {b g : Bool} (ho : l[k]? = some o) (hg : o.guard = some (j, b)) (hj : (l[j]?).bind (·.dst) = some t) (hv : look env t = some (.bool g)) (ht : g = b) (h : Stp P N w0 env L o fun v L' => (∀ w, Mem w0 L' w → Mem w0 Lq w) ∧ Ln P N w0 l fs Q ord (putE env o.dst v) L' L') (hd : dstOk N o.dst = true := by rfl) (hf : fs.contains k = true := by rfl) (hf3 : fs.contains (k + 2000) = false := by rfl) : Ln P N w0 l fs Q (k :: ord) env L Lq := fun a ha =>
  ⟨o, ho, by
    rw [if_pos hf, if_neg (by rw [hf3]; exact Bool.false_ne_true)]
    exact ⟨by rw [wanted_some ha hg hj hv, ht]; simp, fun w hw => upon_mono (fun v w' ⟨L', h1, h2, h4⟩ => ⟨L', L', h1, fun _ h => h, h2, h4 _ (ha.put hd v)⟩) (h a w ha hw)⟩⟩
theorem ln_st (ho : l[k]? = some o) (h : Stp P N w0 env L o fun v L' => (∀ w, Mem w0 L' w → Mem w0 Lq w) ∧ Ln P N w0 l fs Q ord (putE env o.dst v) L' Lq) (hg : o.guard = none := by rfl) (hd : dstOk N o.dst = true := by rfl) (hf : fs.contains k = true := by rfl) (hf3 : fs.contains (k + 2000) = false := by rfl) : Ln P N w0 l fs Q (k :: ord) env L Lq :=
  ln_st' (hf3 := hf3) ho (st_mono h fun v L' ⟨h1, h2⟩ => ⟨L', fun _ h => h, Lq, h1, fun _ h => h, h2⟩) hg hd hf
theorem isAlloc_of {t : TypeId} {z : Value} [hz : ZeroT P t z] {d : Option Tmp} {ty : TypeId} {ps : String} {af : Array Edge} {gd : Option (Nat × Bool)} : IsAlloc P ⟨d, .alloc t, ty, ps, af, gd⟩ t z := fun ρ w => by
  simp only [execOp, Instr.alloc, newVar, newRow, Sem.run_bind, run_zeroValue' w hz, newObj, Sem.run, Result.andThen, Sem.run_pure]; rfl
theorem ln_al {t : TypeId} {z : Value} {d : Option Tmp} {ty : TypeId} {ps : String} {af : Array Edge} [hz : ZeroT P t z] (ho : l[k]? = some ⟨d, .alloc t, ty, ps, af, none⟩) (hk : ∀ b, Ln P N w0 l fs Q ord (putE env d (.pointer (some ⟨b, 0, none⟩))) (blk b z.cells t :: L) Lq) (hd : dstOk N d = true := by rfl) (hf : fs.contains k = true := by rfl) (hf2 : fs.contains (k + 2000) = true := by rfl) : Ln P N w0 l fs Q (k :: ord) env L Lq := fun a ha =>
  ⟨_, ho, by
    rw [if_pos hf, if_pos hf2]
    exact ⟨rfl, t, z, isAlloc_of, fun b => hk b _ (ha.put hd _)⟩⟩
theorem ln_alA {t : TypeId} {cs : Array Value} {d : Option Tmp} {ty : TypeId} {ps : String} {af : Array Edge} [hz : ZeroT P t (.agg cs)] (ho : l[k]? = some ⟨d, .alloc t, ty, ps, af, none⟩) (hk : ∀ b, Ln P N w0 l fs Q ord (putE env d (.pointer (some ⟨b, 0, none⟩))) (blk b cs t :: L) Lq) (hd : dstOk N d = true := by rfl) (hf : fs.contains k = true := by rfl) (hf2 : fs.contains (k + 2000) = true := by rfl) : Ln P N w0 l fs Q (k :: ord) env L Lq := ln_al (z := .agg cs) ho hk hd hf hf2
inductive Als (P : Program) (l : List Oper) : List Nat → Prop
  | nil : Als P l []
  | cons {k : Nat} {ks : List Nat} {t : TypeId} {z : Value} {d : Option Tmp} {ty : TypeId} {ps : String} {af : Array Edge} (ho : l[k]? = some ⟨d, .alloc t, ty, ps, af, none⟩) (hz : ZeroT P t z) (h : Als P l ks) : Als P l (k :: ks)
theorem Als.get {als : List Nat} (h : Als P l als) {k : Nat} (hk : k ∈ als) : ∃ o t z, l[k]? = some o ∧ o.guard = none ∧ IsAlloc P o t z := by
  induction h with
  | nil => cases hk
  | cons ho hz h ih =>
    rcases List.mem_cons.1 hk with rfl | hk
    · exact ⟨_, _, _, ho, rfl, @isAlloc_of _ _ _ hz _ _ _ _ _⟩
    · exact ih hk
theorem cw_lin2 {id : Nat} [Tame Q] (fs : List Nat) (A : List (List Nat)) (ord : List Nat) (Lq : List Ent) (als : List Nat) (hals : Als P l als) (hck : ((fs.all fun j => decide (j < 2000) || als.contains (j - 2000)) && als.all fun k => fs.contains k) = true) (hsub : ∀ w, Mem w0 L w → Mem w0 Lq w) (hm : P.follows .mixedOrders = true) (hB : linB2 l fs A ord = true) (h : Ln P N w0 l fs Q ord env L Lq) (hnd : noDefer l = true := by kernel_rfl) : Cw P N w0 Q (.region id l.toArray true) env L := fun a _ ha hw => by
  rw [Bool.and_eq_true] at hck
  have h1 : ∀ k, fs.contains (k + 2000) = true → k ∈ als := fun k hk => by
    have := List.all_eq_true.1 hck.1 (k + 2000) (by simpa using hk)
    rw [Bool.or_eq_true, decide_eq_true_eq] at this
    rcases this with h | h
    · omega
    · simpa using h
  refine wp_region_lin2 A ord hnd hm hB hw.drew' hsub (fun k hk => ?_) (fun k hk => hals.get (h1 k hk)) (h a ha)
  cases h2 : fs.contains (k + 2000) with
  | false => rfl
  | true =>
    have := List.all_eq_true.1 hck.2 k (h1 k h2)
    rw [hk] at this; cases this
theorem cw_lin {id : Nat} [Tame Q] (fs : List Nat) (A : List (List Nat)) (ord : List Nat) (Lq : List Ent) (hsub : ∀ w, Mem w0 L w → Mem w0 Lq w) (hm : P.follows .mixedOrders = true) (hB : linB l fs A ord = true) (h : Ln P N w0 l fs Q ord env L Lq) (hnd : noDefer l = true := by kernel_rfl) : Cw P N w0 Q (.region id l.toArray true) env L := fun a _ ha hw =>
  wp_region_lin A ord hnd hm hB hw.drew' hsub (h a ha)
end
end Go.Eng

/- Results of none; a cell that lay there ahead; variables of one cell. -/
namespace Go.Eng
open Go.RowKit
theorem res_none {P : Program} {fn : Func} {N : Fra} {env : Env} {w0 : World} {L : List Ent} (hf : fn.results = #[]) : ∀ a w, Rep N env a → Mem w0 L w → (results fn a.tmps).run P w = .ok (.tuple #[]) w := fun a w _ _ => by
  simp [results, hf]
section
variable {P : Program} {w0 : World} {env : Env}
theorem ry_old {N : Fra} {L : List Ent} {d : Option Tmp} {ty : TypeId} {ps : String} {af : Array Edge} {gd : Option (Nat × Bool)} {t : TypeId} {x : Operand} {p : Addr} {v : Value} [ht : OneT P t] (hx : ev env x = some (.pointer (some p))) (hc : w0.cell? p = some v) : Ry P N w0 env L ⟨d, .load t x, ty, ps, af, gd⟩ v :=
  ry_load_one ht hx fun w hw => (hw.below.cell (by
    unfold World.cell? at hc
    cases ho : w0.heap[p.block]? with
    | none => simp [ho] at hc
    | some o => exact (Array.getElem?_eq_some_iff.1 ho).1)).trans hc
end
/-! Variables of one cell. -/
section
variable {P : Program} {N : Fra} {w0 : World} {env : Env} {L : List Ent} {l : List Oper} {Q : Exit → Act → World → Prop} {rest : List Oper} {d : Option Tmp} {ty : TypeId} {ps : String} {af : Array Edge} {K : Value → List Ent → Prop}
instance CellAt.one {v : Value} : CellAt #[v] 0 v := ⟨rfl⟩
theorem sq_box1 {t : TypeId} {x : Operand} {v : Value} (hc : v.cells = #[v]) (hx : ev env x = some v) (hk : ∀ b, Sq P N w0 l Q rest (putE env d (.pointer (some ⟨b, 0, none⟩))) (blk b #[v] t :: L)) (hd : dstOk N d = true := by rfl) :
    Sq P N w0 l Q (⟨d, .box t x, ty, ps, af, none⟩ :: rest) env L := sq_box hx (by rw [hc]; exact hk) hd
theorem sq_alloc1 {t : TypeId} {z : Value} [hz : ZeroT P t z] (hc : z.cells = #[z]) (hk : ∀ b, Sq P N w0 l Q rest (putE env d (.pointer (some ⟨b, 0, none⟩))) (blk b #[z] t :: L)) (hd : dstOk N d = true := by rfl) :
    Sq P N w0 l Q (⟨d, .alloc t, ty, ps, af, none⟩ :: rest) env L := sq_alloc (z := z) (by rw [hc]; exact hk) hd
theorem sq_store1 {t : TypeId} {x y : Operand} {i b : Nat} {u : Value} {T : TypeId} {v : Value} (hv : v.oneCell' = true) (hx : ev env x = some (.pointer (some ⟨b, 0, none⟩))) (hy : ev env y = some v) [ht : OneT P t] [hh : Has L b #[u] T i] {L' : List Ent} [hu : Upd L i (blk b #[v] T) L'] (hk : Sq P N w0 l Q rest env L') :
    Sq P N w0 l Q (⟨none, .store t x y, ty, ps, af, none⟩ :: rest) env L := sq_store (cs' := #[v]) hx hy (by show 0 < 1; decide) hv rfl hk
theorem st_box1 {t : TypeId} {x : Operand} {v : Value} (hc : v.cells = #[v]) (hx : ev env x = some v) (hk : ∀ b, K ((.pointer (some ⟨b, 0, none⟩))) ((blk b #[v] t :: L))) :
    Stp P N w0 env L ⟨d, .box t x, ty, ps, af, none⟩ K := st_box hx (by rw [hc]; exact hk)
theorem st_alloc1 {t : TypeId} {z : Value} [hz : ZeroT P t z] (hc : z.cells = #[z]) (hk : ∀ b, K ((.pointer (some ⟨b, 0, none⟩))) ((blk b #[z] t :: L))) :
    Stp P N w0 env L ⟨d, .alloc t, ty, ps, af, none⟩ K := st_alloc (z := z) (by rw [hc]; exact hk)
theorem st_store1 {t : TypeId} {x y : Operand} {i b : Nat} {u : Value} {T : TypeId} {v : Value} (hv : v.oneCell' = true) (hx : ev env x = some (.pointer (some ⟨b, 0, none⟩))) (hy : ev env y = some v) [ht : OneT P t] [hh : Has L b #[u] T i] {L' : List Ent} [hu : Upd L i (blk b #[v] T) L'] (hk : K undef L') :
    Stp P N w0 env L ⟨none, .store t x y, ty, ps, af, none⟩ K := st_store (cs' := #[v]) hx hy (by show 0 < 1; decide) hv rfl hk
end

theorem sq_stU {P : Program} {N : Fra} {w0 : World} {env : Env} {L : List Ent} {l : List Oper} {Q : Exit → Act → World → Prop} {rest : List Oper} {ty : TypeId} {ps : String} {af : Array Edge} {t : TypeId} {x y : Operand} {i k p : Nat} {s : Sv} {xs : List UInt8} {a v : UInt8} [ht : OneT P t] (hx : ev env x = some (.pointer (some ⟨s.b, p, none⟩))) (hy : ev env y = some (.int .u8 v.toNat)) [q : Owns L s benc 1 xs i] (ha : xs[k]? = some a) (hp' : p = s.o + k * 1) {L' : List Ent} [hu : Upd L i (own benc 1 s (xs.set k v)) L'] (hk : Sq P N w0 l Q rest env L') :
    Sq P N w0 l Q (⟨none, .store t x y, ty, ps, af, none⟩ :: rest) env L :=
  sq_storeS (j := 0) (n := 1) (a' := v) ht.size hx hy (q := q) (by omega) ha (by simp [Value.cells, Value.oneCell']) rfl (by omega) (by rfl) hk
end Go.Eng

/- Rows opened to their cells: moved within a block, made longer in their room or anew. -/
namespace Go.Eng
open Go.RowKit

theorem over_cat {A X V : List Value} {o : Nat} (h : o = A.length) : over (A ++ X).toArray o V.toArray = (A ++ (V ++ X.drop V.length)).toArray := by
  subst h
  unfold over
  simp only [List.size_toArray, List.append_assoc]
  rw [List.take_left, List.drop_append]
  simp
section
variable {α : Type} {enc : α → Array Value} {c : Nat} {s : Sv} {xs : List α}
theorem flatR_app (xs ys : List α) : flatR enc (xs ++ ys) = flatR enc xs ++ flatR enc ys := by simp [flatR]
theorem row_cells [he : Enc enc c] (hc : 0 < c) {cs : Array Value} {o : Nat} (hsz : o + xs.length * c ≤ cs.size) (hr : ∀ i x, xs[i]? = some x → ∀ j, j < c → cs[o + i * c + j]? = (enc x)[j]?) :
    cs = (cs.toList.take o ++ (flatR enc xs ++ cs.toList.drop (o + xs.length * c))).toArray := by
  have key : (cs.toList.drop o).take (xs.length * c) = flatR enc xs := by
    refine List.ext_getElem? fun k => ?_
    rcases Nat.lt_or_ge k (xs.length * c) with hk | hk
    · rw [List.getElem?_take_of_lt hk, List.getElem?_drop, Array.getElem?_toList]
      have hd : k / c < xs.length := Nat.div_lt_of_lt_mul (by rwa [Nat.mul_comm])
      have hm := Nat.mod_lt k hc
      have e : k / c * c + k % c = k := by rw [Nat.mul_comm]; exact Nat.div_add_mod k c
      have h1 := hr (k / c) xs[k / c] (by simp [hd]) (k % c) hm
      have h2 := flatR_get (enc := enc) xs (k / c) xs[k / c] (by simp [hd]) (k % c) hm
      rw [e] at h2
      rw [h2, ← h1]; congr 1; omega
    · rw [List.getElem?_eq_none (by simp; omega), List.getElem?_eq_none (by rw [flatR_length]; omega)]
  apply Array.ext'
  simp only
  rw [← key, ← List.append_assoc, show o + xs.length * c = o + xs.length * c from rfl, ← List.drop_drop, List.append_assoc, List.take_append_drop, List.take_append_drop]
theorem min_l {a b : Nat} (h : a ≤ b) : a = Nat.min a b := (Nat.min_eq_left h).symm
theorem min_r {a b : Nat} (h : b ≤ a) : b = Nat.min a b := (Nat.min_eq_right h).symm
theorem set_set {L : List Ent} {i : Nat} {e e' : Ent} : (L.set i e).set i e' = L.set i e' := by simp

theorem own_open [he : Enc enc c] (hc : 1 < c) {w0 w : World} {L : List Ent} {i : Nat} (hw : Mem w0 L w) (hi : L[i]? = some (own enc c s xs)) (hn : s.nil = false) :
    ∃ pre mid T, pre.length = s.o ∧ s.o + s.cap * c ≤ pre.length + (xs.length * c + mid.length) ∧ s.sp = none ∧ s.Ok ∧ s.len = xs.length ∧ Mem w0 (L.set i (blk s.b (pre ++ (flatR enc xs ++ mid)).toArray T)) w := by
  obtain ⟨r, hrow⟩ := hw.get hi
  obtain ⟨hsp, cs, T, fz, hblk, hsz, hfz, hf0⟩ := hrow hn
  obtain rfl := hf0 hc
  have hle := r.ok.le
  have hlen := r.len
  have hm : xs.length * c ≤ s.cap * c := Nat.mul_le_mul_right _ (by omega)
  have e := row_cells (enc := enc) (c := c) (xs := xs) (cs := cs) (o := s.o) (by omega) (by omega) fun i x hx j hj => by
    rw [← r.row i x hx j hj]; unfold cellH; rw [hblk]
  refine ⟨cs.toList.take s.o, cs.toList.drop (s.o + xs.length * c), T, by simp; omega, by simp; omega, hsp, r.ok, hlen, ?_⟩
  rw [← e]
  exact hw.change hi (fun k (hk : k = s.b) => ⟨hn, hk⟩) (fun _ _ => rfl) rfl ⟨rfl, rfl, rfl⟩ hblk
theorem own_shut [he : Enc enc c] {w0 w : World} {L : List Ent} {i b : Nat} {pre mid : List Value} {T : TypeId} (hw : Mem w0 L w) (hi : L[i]? = some (blk b (pre ++ (flatR enc xs ++ mid)).toArray T)) (s' : Sv) (hok : s'.Ok) (hn : s'.nil = false) (hb : s'.b = b) (hsp : s'.sp = none) (ho : s'.o = pre.length) (hl : s'.len = xs.length)
    (hcap : s'.o + s'.cap * c ≤ pre.length + (xs.length * c + mid.length)) : Mem w0 (L.set i (own enc c s' xs)) w := by
  subst hb
  have hblk : hp w s'.b = some (.cells (pre ++ (flatR enc xs ++ mid)).toArray T (0, 0)) := hw.block hi
  refine hw.change hi (fun k hk => hk.2) (fun _ _ => rfl) rfl ⟨rfl, rfl, rfl⟩ ⟨rows_of hok hl hblk fun k y hy j hj => ?_, fun _ => ⟨hsp, _, _, _, hblk, by simp [flatR_length]; omega, free_00 _, fun _ => rfl⟩⟩
  have hlt : k * c + j < (flatR enc xs).length := by
    rw [flatR_length]
    have h1 := (List.getElem?_eq_some_iff.1 hy).1
    calc k * c + j < k * c + c := by omega
      _ = (k + 1) * c := by rw [Nat.add_mul]; omega
      _ ≤ _ := Nat.mul_le_mul_right _ h1
  rw [List.getElem?_toArray, List.getElem?_append_right (by omega), List.getElem?_append_left (by omega), ← flatR_get (enc := enc) xs k y hy j hj]
  congr 1; omega
theorem Sv.sub_o {lo hi : Nat} (h : lo < s.cap) : (s.sub c lo hi).o = s.o + lo * c := by simp only [Sv.sub]; rw [if_neg (by omega)]
theorem Sv.sub_0 {hi : Nat} : (s.sub c 0 hi).o = s.o := by simp only [Sv.sub]; split <;> simp
theorem Sv.sub_eq {hi : Nat} (hn : s.nil = false) (hsp : s.sp = .none) : s.sub c 0 hi = ⟨false, s.b, s.o, hi, s.cap, .none⟩ := by
  have h0 := Sv.sub_0 (s := s) (c := c) (hi := hi)
  obtain ⟨sn, sb, so, sl, sc, ss⟩ := s
  simp only [Sv.sub] at h0 hn hsp ⊢
  subst hn hsp
  rw [h0]; rfl
end

section
variable {P : Program} {N : Fra} {w0 : World} {env : Env} {L : List Ent} {Q : Exit → Act → World → Prop} {l rest : List Oper} {d : Option Tmp} {ty : TypeId} {ps : String} {af : Array Edge} {gd : Option (Nat × Bool)} {K : Value → List Ent → Prop}
variable {α : Type} {enc : α → Array Value} {c : Nat} {s : Sv} {xs : List α}
theorem blk_cells {w : World} {pre A mid : List Value} {T : TypeId} {b o : Nat} {L' : List Ent} (hw : Mem w0 (blk b (pre ++ (A ++ mid)).toArray T :: L') w) (ho : pre.length = o) {j : Nat} {u : Value} (hj : A[j]? = some u) : w.cell? ⟨b, o + j, none⟩ = some u := by
  have hjl := (List.getElem?_eq_some_iff.1 hj).1
  have h0 : (blk b (pre ++ (A ++ mid)).toArray T :: L')[0]? = some (blk b (pre ++ (A ++ mid)).toArray T) := rfl
  rw [hw.cell h0, List.getElem?_toArray, List.getElem?_append_right (by omega), List.getElem?_append_left (by omega), ← hj]
  congr 1; omega
theorem cw_open {code : Code} [he : Enc enc c] {i : Nat} (q : Owns L s enc c xs i) (hc : 1 < c) (hn : 0 < xs.length) {L' : List Value → List Value → TypeId → List Ent} [hu : ∀ pre mid T, Upd L i (blk s.b (pre ++ (flatR enc xs ++ mid)).toArray T) (L' pre mid T)]
    (h : ∀ pre mid T, pre.length = s.o → s.o + s.cap * c ≤ pre.length + (xs.length * c + mid.length) → s.nil = false → s.sp = none → s.Ok → s.len = xs.length → Cw P N w0 Q code env (L' pre mid T)) : Cw P N w0 Q code env L := fun a w ha hw => by
  have hnil := (hw.get q.h).1.some hn
  obtain ⟨pre, mid, T, h1, h2, h3, h4, h5, h6⟩ := own_open hc hw q.h hnil
  rw [(hu pre mid T).h] at h6
  exact h pre mid T h1 h2 hnil h3 h4 h5 a w ha h6
theorem cw_owned {code : Code} {i : Nat} (q : Owns L s enc c xs i) (hn : 0 < xs.length) (h : s.nil = false → s.sp = none → s.Ok → s.len = xs.length → Cw P N w0 Q code env L) : Cw P N w0 Q code env L := fun a w ha hw => by
  obtain ⟨r, hrow⟩ := hw.get q.h
  have hnil := r.some hn
  exact h hnil (hrow hnil).1 r.ok r.len a w ha hw
theorem own_cells [he : Enc enc c] (hc : 0 < c) {i : Nat} (q : Owns L s enc c xs i) {w : World} (hw : Mem w0 L w) {j : Nat} {v : Value} (hj : (flatR enc xs)[j]? = some v) : w.cell? ⟨s.b, s.o + j, none⟩ = some v := by
  obtain ⟨x, hx, hv⟩ := flatR_div hc hj
  have r := (hw.get q.h).1
  rw [cell_hp, ← hv, ← r.row _ x hx (j % c) (Nat.mod_lt _ hc)]
  congr 1
  have := Nat.div_add_mod j c
  rw [Nat.mul_comm] at this; omega
theorem run_copy_rows (w : World) (dT sT ty elem : TypeId) (b o dLen dCap : Nat) (a : Addr) (sLen sCap n : Nat) (cur : Array Value) (t : TypeId) (vs : List Value)
    (hu : P.underlying dT = some (.slice elem)) (hs : (P.info? elem).map (·.size) = some c) (hg : w.heap[b]? = some (.cells cur t (0, 0))) (hn : n = Nat.min sLen dLen) (hv : vs.length = n * c)
    (hsrc : ∀ j v, vs[j]? = some v → w.cell? (a.add j) = some v) (hfit : o + vs.length ≤ cur.size) (h1 : ∀ v ∈ vs, v.oneCell' = true) :
    (Builtin.copy_ #[dT, sT] ty #[.slice (some ⟨b, o, none⟩) dLen dCap, .slice (some a) sLen sCap]).run P w = .ok (goInt n) (w.setRow b (over cur o vs.toArray)) := by
  have hl := run_loadCells_list (P := P) w a vs hsrc
  have hst := run_storeCells_at P b o t vs 0 cur w hg (by simpa using hfit) h1
  rw [hv] at hl
  cases hq : P.info? elem with
  | none => simp [hq] at hs
  | some i =>
    have hi : i.size = c := by simpa [hq] using hs
    simp [Builtin.copy_, run_underlying hu, Builtin.lenOf, Builtin.firstCells, sizeOf, typeInfo, hq, hi, ← hn, hl, hst, over]
theorem sq_copyB {D S : Sv} {x y : Operand} {tx tys e : TypeId} {i b o n : Nat} {cs : Array Value} {T : TypeId} {vs : List Value} (hx : ev env x = some D.val) (hy : ev env y = some S.val)
    (hDn : D.nil = false) (hDs : D.sp = none) (hDb : D.b = b) (hDo : D.o = o) (hSn : S.nil = false) (hSs : S.sp = none) [ht : SliceT P tx e c] [hh : Has L b cs T i] (hn : n = Nat.min S.len D.len) (hv : vs.length = n * c)
    (hsrc : ∀ w, Mem w0 L w → ∀ j v, vs[j]? = some v → w.cell? ⟨S.b, S.o + j, none⟩ = some v) (h1 : ∀ v ∈ vs, v.oneCell' = true) (ho : o + vs.length ≤ cs.size) {cs' : Array Value} {L' : List Ent} (hcs : over cs o vs.toArray = cs') [hu : Upd L i (blk b cs' T) L']
    (hk : Sq P N w0 l Q rest (putE env d (.int .i64 n)) L') (hd : dstOk N d = true := by rfl) :
    Sq P N w0 l Q (⟨d, .call { callee := .builtin .copy, args := #[x, y], argTypes := #[tx, tys] }, ty, ps, af, none⟩ :: rest) env L :=
  sq_run rfl hd fun aa w ha hw => by
    rw [Sv.val_some hDn, hDs, hDb, hDo] at hx
    rw [Sv.val_some hSn, hSs] at hy
    have hb := hw.block hh.h
    have hrun := run_copy_rows (P := P) w tx tys ty e b o D.len D.cap ⟨S.b, S.o, none⟩ S.len S.cap n cs T vs ht.und ht.size hb hn hv (fun j v hj => by rw [Addr.add_none]; exact hsrc w hw j v hj) ho h1
    refine ⟨_, _, _, ?_, by rw [← hu.h, ← hcs]; exact hw.setRow hh.h _, hk⟩
    simp [execOp, ha.ev hx, ha.ev hy, resolve, invoke, builtin, hrun, Result.andThen, goInt]
theorem st_copyB {D S : Sv} {x y : Operand} {tx tys e : TypeId} {i b o n : Nat} {cs : Array Value} {T : TypeId} {vs : List Value} (hx : ev env x = some D.val) (hy : ev env y = some S.val)
    (hDn : D.nil = false) (hDs : D.sp = none) (hDb : D.b = b) (hDo : D.o = o) (hSn : S.nil = false) (hSs : S.sp = none) [ht : SliceT P tx e c] [hh : Has L b cs T i] (hn : n = Nat.min S.len D.len) (hv : vs.length = n * c)
    (hsrc : ∀ w, Mem w0 L w → ∀ j v, vs[j]? = some v → w.cell? ⟨S.b, S.o + j, none⟩ = some v) (h1 : ∀ v ∈ vs, v.oneCell' = true) (ho : o + vs.length ≤ cs.size) {cs' : Array Value} {L' : List Ent} (hcs : over cs o vs.toArray = cs') [hu : Upd L i (blk b cs' T) L']
    (hk : K (.int .i64 n) L') :
    Stp P N w0 env L ⟨d, .call { callee := .builtin .copy, args := #[x, y], argTypes := #[tx, tys] }, ty, ps, af, none⟩ K :=
  st_run fun aa w ha hw => by
    rw [Sv.val_some hDn, hDs, hDb, hDo] at hx
    rw [Sv.val_some hSn, hSs] at hy
    have hb := hw.block hh.h
    have hrun := run_copy_rows (P := P) w tx tys ty e b o D.len D.cap ⟨S.b, S.o, none⟩ S.len S.cap n cs T vs ht.und ht.size hb hn hv (fun j v hj => by rw [Addr.add_none]; exact hsrc w hw j v hj) ho h1
    refine ⟨_, _, _, ?_, by rw [← hu.h, ← hcs]; exact hw.setRow hh.h _, hk⟩
    simp [execOp, ha.ev hx, ha.ev hy, resolve, invoke, builtin, hrun, Result.andThen, goInt]
theorem st_appendB {D S : Sv} {x y : Operand} {tx tys e e' : TypeId} {by' i b o n : Nat} {cs : Array Value} {T : TypeId} {vs : List Value} (hx : ev env x = some D.val) (hy : ev env y = some S.val)
    (hDn : D.nil = false) (hDs : D.sp = none) (hDb : D.b = b) (hDo : D.o + D.len * c = o) (hSn : S.nil = false) (hSs : S.sp = none) [ht : SlT P tx e c by'] (hts : P.underlying tys = some (.slice e')) [hh : Has L b cs T i] (hn : S.len = n) (hv : vs.length = n * c) (hroom : D.len + n ≤ D.cap)
    (hsrc : ∀ w, Mem w0 L w → ∀ j v, vs[j]? = some v → w.cell? ⟨S.b, S.o + j, none⟩ = some v) (h1 : ∀ v ∈ vs, v.oneCell' = true) (ho : o + vs.length ≤ cs.size) {cs' : Array Value} {L' : List Ent} (hcs : over cs o vs.toArray = cs') [hu : Upd L i (blk b cs' T) L']
    {R : Sv} (hR : R = ⟨false, b, D.o, D.len + n, D.cap, none⟩) (hk : K R.val L') :
    Stp P N w0 env L ⟨d, .call { callee := .builtin .append, args := #[x, y], argTypes := #[tx, tys] }, ty, ps, af, none⟩ K :=
  st_run fun aa w ha hw => by
    subst hR hDo hDb
    rw [Sv.val_some hDn, hDs] at hx
    rw [Sv.val_some hSn, hSs, hn] at hy
    have hb := hw.block hh.h
    obtain ⟨i', z, hi1, hi2, hi3, hi4, hzc⟩ := ht.info
    have hs := Src.ofSlice (P := P) (size := c) w hts ⟨S.b, S.o, none⟩ n S.cap vs hv (fun j v hj => by rw [Addr.add_none]; exact hsrc w hw j v hj) h1
    have hst := run_storeCells_at P D.b (D.o + D.len * c) T vs 0 cs w hb (by simpa using ho) h1
    have hrun : (Builtin.append_ #[tx, tys] ty #[.slice (some ⟨D.b, D.o, none⟩) D.len D.cap, .slice (some ⟨S.b, S.o, none⟩) n S.cap]).run P w = .ok (.slice (some ⟨D.b, D.o, none⟩) (D.len + n) D.cap) (w.setRow D.b (over cs (D.o + D.len * c) vs.toArray)) := by
      subst hi3
      rcases hs.kind with ⟨e', hk⟩ | hk <;> simp [Builtin.append_, run_underlying ht.und, run_underlying hk, sizeOf, typeInfo, hi1, hs.len, hroom, hs.cells, Addr.add_none, hst, over]
    refine ⟨_, _, _, ?_, by rw [← hu.h, ← hcs]; exact hw.setRow hh.h _, hk⟩
    simp [execOp, ha.ev hx, ha.ev hy, resolve, invoke, builtin, hrun, Result.andThen, Sv.val]
theorem sq_appendB {D S : Sv} {x y : Operand} {tx tys e e' : TypeId} {by' i b o n : Nat} {cs : Array Value} {T : TypeId} {vs : List Value} (hx : ev env x = some D.val) (hy : ev env y = some S.val)
    (hDn : D.nil = false) (hDs : D.sp = none) (hDb : D.b = b) (hDo : D.o + D.len * c = o) (hSn : S.nil = false) (hSs : S.sp = none) [ht : SlT P tx e c by'] (hts : P.underlying tys = some (.slice e')) [hh : Has L b cs T i] (hn : S.len = n) (hv : vs.length = n * c) (hroom : D.len + n ≤ D.cap)
    (hsrc : ∀ w, Mem w0 L w → ∀ j v, vs[j]? = some v → w.cell? ⟨S.b, S.o + j, none⟩ = some v) (h1 : ∀ v ∈ vs, v.oneCell' = true) (ho : o + vs.length ≤ cs.size) {cs' : Array Value} {L' : List Ent} (hcs : over cs o vs.toArray = cs') [hu : Upd L i (blk b cs' T) L']
    {R : Sv} (hR : R = ⟨false, b, D.o, D.len + n, D.cap, none⟩) (hk : Sq P N w0 l Q rest (putE env d R.val) L') (hd : dstOk N d = true := by rfl) :
    Sq P N w0 l Q (⟨d, .call { callee := .builtin .append, args := #[x, y], argTypes := #[tx, tys] }, ty, ps, af, none⟩ :: rest) env L :=
  sq_run rfl hd fun aa w ha hw => by
    subst hR hDo hDb
    rw [Sv.val_some hDn, hDs] at hx
    rw [Sv.val_some hSn, hSs, hn] at hy
    have hb := hw.block hh.h
    obtain ⟨i', z, hi1, hi2, hi3, hi4, hzc⟩ := ht.info
    have hs := Src.ofSlice (P := P) (size := c) w hts ⟨S.b, S.o, none⟩ n S.cap vs hv (fun j v hj => by rw [Addr.add_none]; exact hsrc w hw j v hj) h1
    have hst := run_storeCells_at P D.b (D.o + D.len * c) T vs 0 cs w hb (by simpa using ho) h1
    have hrun : (Builtin.append_ #[tx, tys] ty #[.slice (some ⟨D.b, D.o, none⟩) D.len D.cap, .slice (some ⟨S.b, S.o, none⟩) n S.cap]).run P w = .ok (.slice (some ⟨D.b, D.o, none⟩) (D.len + n) D.cap) (w.setRow D.b (over cs (D.o + D.len * c) vs.toArray)) := by
      subst hi3
      rcases hs.kind with ⟨e', hk⟩ | hk <;> simp [Builtin.append_, run_underlying ht.und, run_underlying hk, sizeOf, typeInfo, hi1, hs.len, hroom, hs.cells, Addr.add_none, hst, over]
    refine ⟨_, _, _, ?_, by rw [← hu.h, ← hcs]; exact hw.setRow hh.h _, hk⟩
    simp [execOp, ha.ev hx, ha.ev hy, resolve, invoke, builtin, hrun, Result.andThen, Sv.val]
theorem sq_appendZ {D : Sv} {x y : Operand} {tx tys e : TypeId} {by' k : Nat} {z : Value} {olds : List Value} {kn kq : IntKind} {iy : Int} {p m : Nat} (hp : D.len = p) (hm : p + k = m) (hx : ev env x = some D.val) (hy : ev env y = some (.int kq iy)) (hk0 : iy = (k : Int)) (h0 : 0 < k)
    (hDn : D.nil = false) (hDs : D.sp = none) [ht : SlT P tx e c by'] (hc : 0 < c) [hz : ZeroT P e z] (htn : P.underlying tys = some (.int kn)) (holds : olds.length = D.len * c) (hsrc : ∀ w, Mem w0 L w → ∀ j v, olds[j]? = some v → w.cell? ⟨D.b, D.o + j, none⟩ = some v)
    (hg : D.cap < D.len + k) (hb : (D.len + k) * by' ≤ 140737488355328) (h63 : D.len + k ≤ 140737488355328)
    (hk : ∀ (b C : Nat) (Z : List Value), m ≤ C → p * c + Z.length = C * c → Sq P N w0 l Q rest (putE env d (Sv.val ⟨false, b, 0, m, C, none⟩)) (blk b (olds ++ Z).toArray e :: L)) (hd : dstOk N d = true := by rfl) :
    Sq P N w0 l Q (⟨d, .call { callee := .builtin .append, args := #[x, y], argTypes := #[tx, tys] }, ty, ps, af, none⟩ :: rest) env L :=
  sq_run rfl hd fun aa w ha hw => by
    subst hk0 hp hm
    rw [Sv.val_some hDn, hDs] at hx
    obtain ⟨i', z', hi1, hi2, hi3, hi4, hzc⟩ := ht.info
    subst hi3 hi4
    have hcap := nextslicecap_le hg
    have hfit : Builtin.nextslicecap (D.len + k) D.cap * i'.bytes ≤ 281474976710656 := by
      have h2 : Builtin.nextslicecap (D.len + k) D.cap * i'.bytes ≤ 2 * (D.len + k) * i'.bytes := Nat.mul_le_mul_right _ hcap
      rw [Nat.mul_assoc] at h2
      omega
    have h48 : k * i'.bytes ≤ 281474976710656 := by
      have : k * i'.bytes ≤ (D.len + k) * i'.bytes := Nat.mul_le_mul_right _ (by omega)
      omega
    have hold := run_firstCells_some (P := P) w.drew i'.size D.len ⟨D.b, D.o, none⟩ D.len D.cap olds holds (fun j v hj => by rw [Addr.add_none]; exact hsrc w hw j v hj)
    have hrun := Lib.run_append_grow_zeros (P := P) w tx tys ty e i' z' kq kn ht.und htn hi1 hi2 (some ⟨D.b, D.o, none⟩) D.len D.cap olds hold k h0 hc hg (by omega) h48 hfit
    have hcge := grownCap_ge w (D.len + k) D.cap e
    generalize grownCap w (D.len + k) D.cap e = C at hrun hcge
    have hZ1 := size_zeroCells z'.cells k
    have hZ2 := size_zeroCells z'.cells (C - (D.len + k))
    rw [hzc] at hZ1 hZ2
    have hZ : D.len * i'.size + (Builtin.zeroCells z'.cells k ++ Builtin.zeroCells z'.cells (C - (D.len + k))).toList.length = C * i'.size := by
      rw [Array.length_toList, Array.size_append, hZ1, hZ2, ← Nat.add_mul, ← Nat.add_mul]; congr 1; omega
    have e1 : olds.toArray ++ Builtin.zeroCells z'.cells k ++ Builtin.zeroCells z'.cells (C - (D.len + k)) = (olds ++ (Builtin.zeroCells z'.cells k ++ Builtin.zeroCells z'.cells (C - (D.len + k))).toList).toArray := by apply Array.ext'; simp
    rw [e1] at hrun
    refine ⟨_, _, _, ?_, hw.drew.alloc _ e, hk w.heap.size C _ hcge hZ⟩
    simp [execOp, ha.ev hx, ha.ev hy, resolve, invoke, builtin, hrun, Result.andThen, Sv.val]
theorem sq_clearB {D : Sv} {x : Operand} {tx e : TypeId} {by' i b o n : Nat} {z : Value} {cs : Array Value} {T : TypeId} (hx : ev env x = some D.val) (hDn : D.nil = false) (hDs : D.sp = none) (hDb : D.b = b) (hDo : D.o = o) (hn : D.len = n) (h0 : 0 < n) [ht : SlT P tx e c by'] [hz : ZeroT P e z] (h1 : z.cells.all (·.oneCell') = true) [hh : Has L b cs T i] (ho : o + n * c ≤ cs.size)
    {L' : List Value → List Ent} [hu : ∀ Z, Upd L i (blk b (over cs o Z.toArray) T) (L' Z)] (hk : ∀ Z : List Value, Z.length = n * c → Sq P N w0 l Q rest env (L' Z)) :
    Sq P N w0 l Q (⟨none, .call { callee := .builtin .clear, args := #[x], argTypes := #[tx] }, ty, ps, af, none⟩ :: rest) env L :=
  sq_run rfl rfl fun aa w ha hw => by
    rw [Sv.val_some hDn, hDs, hDb, hDo, hn] at hx
    have hb := hw.block hh.h
    obtain ⟨i', z', hi1, hi2, hi3, hi4, hzc⟩ := ht.info
    obtain rfl : z' = z := by
      have := hz.zero
      rw [hi1, Option.map_some, hi2] at this; exact Option.some.inj (Option.some.inj this)
    subst hi3
    have hZ := size_zeroCells z'.cells n
    rw [hzc] at hZ
    have hone : ∀ v ∈ (Builtin.zeroCells z'.cells n).toList, v.oneCell' = true := fun v hv => by
      simp only [Builtin.zeroCells, Array.toList_map, List.mem_map] at hv
      obtain ⟨j, hj, rfl⟩ := hv
      have h0' : 0 < z'.cells.size := by
        rcases Nat.eq_zero_or_pos z'.cells.size with h | h
        · rw [h] at hj; simp at hj
        · exact h
      rw [getElem!_pos z'.cells _ (Nat.mod_lt _ h0')]
      exact (Array.all_eq_true_iff_forall_mem.1 h1) _ (Array.getElem_mem _)
    have hst := run_storeCells_at P b o T (Builtin.zeroCells z'.cells n).toList 0 cs w hb (by simp [hZ]; omega) hone
    have hrun : (Builtin.clear_ #[tx] ty #[.slice (some ⟨b, o, none⟩) n D.cap]).run P w = .ok (.tuple #[]) (w.setRow b (over cs o (Builtin.zeroCells z'.cells n))) := by
      obtain ⟨m, rfl⟩ : ∃ m, n = m + 1 := ⟨n - 1, by omega⟩
      simp [Builtin.clear_, run_underlying ht.und, zeroValue, typeInfo, hi1, hi2, hst, over]
    refine ⟨.tuple #[], w.setRow b (over cs o (Builtin.zeroCells z'.cells n)), L' (Builtin.zeroCells z'.cells n).toList, ?_, ?_, hk _ (by rw [Array.length_toList, hZ])⟩
    · simp [execOp, ha.ev hx, resolve, invoke, builtin, hrun, Result.andThen]
    · have h9 := hw.setRow hh.h (over cs o (Builtin.zeroCells z'.cells n))
      rw [← (hu _).h]
      simpa using h9
def Sv.top (s : Sv) (m : Nat) : Sv := ⟨s.nil, s.b, s.o, s.len, m, s.sp⟩
theorem ry_subH3 {t e : TypeId} {x lo hi mx : Operand} {l h m : Nat} {k k' k'' : IntKind} {il ih im : Int} [ht : SliceT P t e c] (hx : ev env x = some s.val) [q : Hd w0 L s enc c xs] (hl : ev env lo = some (.int k il)) (hh : ev env hi = some (.int k' ih)) (hm : ev env mx = some (.int k'' im)) (el : il = (l : Int)) (eh : ih = (h : Int)) (em : im = (m : Int)) (h1 : l ≤ h) (h2 : h ≤ m) (h3 : m ≤ xs.length) :
    Ry P N w0 env L ⟨d, .slice t x (some lo) (some hi) (some mx), ty, ps, af, gd⟩ ((s.top m).sub c l h).val := fun a w ha hw => by
  subst el eh em
  have r := q.h w hw
  have hs := r.ok
  have hlen := r.len
  have hle := hs.le
  have ee := elem_of ht.und
  have hu : P.underlying t = some (.slice (P.elem t)) := by rw [ee]; exact ht.und
  obtain ⟨ad, len, cap, ev'⟩ := s.ex
  have e3 : len = s.len ∧ cap = s.cap ∧ sliced ad l h m c = ((s.top m).sub c l h).val := by
    cases hn : s.nil with
    | true =>
      rw [Sv.val_nil hn] at ev'
      obtain ⟨rfl, rfl, rfl⟩ := by simpa using ev'
      have := hs.nil hn
      have e2 : ((s.top m).sub c l h).nil = true := hn
      rw [Sv.val_nil e2]
      have : l = 0 := by omega
      have : h = 0 := by omega
      have : m = 0 := by omega
      subst l h m
      exact ⟨by omega, by omega, by simp [sliced]⟩
    | false =>
      rw [Sv.val_some hn] at ev'
      obtain ⟨rfl, rfl, rfl⟩ := by simpa using ev'
      have e2 : ((s.top m).sub c l h).nil = false := hn
      rw [Sv.val_some e2]
      refine ⟨rfl, rfl, ?_⟩
      simp only [sliced, Sv.sub, Sv.top]
      by_cases hc : m = l
      · simp [hc]
      · have hsp := hs.sp (by omega)
        simp [hc, hsp, Addr.add_none]
  obtain ⟨e1, e2, e3⟩ := e3
  have hr := run_slice_lhm (P := P) (w := w) t ad len cap hu k k' k'' (l : Int) (h : Int) (m : Int) (by omega) (by omega) (by omega) (by omega)
  rw [ee, run_sizeOf' w ht.size] at hr
  simp only [Result.andThen, Int.toNat_natCast, e3] at hr
  simp only [execOp, ha.ev hx, ha.ev hl, ha.ev hh, ha.ev hm, ev', Option.map_some, run_sliceAt_slice (h := hu), hr, Sem.run_bind, Result.andThen, Sem.run_pure]
theorem ry_capSv {t e : TypeId} {x : Operand} {m n : Nat} [ht : SliceT P t e m] (hx : ev env x = some s.val) (hnil : s.nil = false) (hn : s.cap = n) :
    Ry P N w0 env L ⟨d, .call { callee := .builtin .cap, args := #[x], argTypes := #[t] }, ty, ps, af, gd⟩ (.int .i64 n) := fun a w ha _ => by
  subst hn
  rw [Sv.val_some hnil] at hx
  have hu : P.underlying t = some (.slice (P.elem t)) := by rw [elem_of ht.und]; exact ht.und
  have := run_cap_slice (P := P) (w := w) t ty (some ⟨s.b, s.o, s.sp⟩) s.len s.cap hu
  simp [execOp, ha.ev hx, resolve, invoke, builtin, this, Result.andThen, goInt]
class OvF (P : Program) (f : FuncId) (tS tR : outParam TypeId) : Prop where
  fn : ∃ fn, P.funcs[f]? = some fn ∧ (fn.name == "runtime.NumGoroutine") = false ∧ fn.body.isNone = true ∧ Extern.findNext fn = none ∧ Extern.find fn = some (Extern.SlicesOverlaps.overlaps #[tS, tS] #[tR])
theorem Mem.apart {w : World} {i j k : Nat} {e e' : Ent} (h : Mem w0 L w) (hi : L[i]? = some e) (hj : L[j]? = some e') (hij : i ≠ j) (hk : e.fp k) : ¬ e'.fp k := by
  obtain ⟨gi, rfl⟩ := List.getElem?_eq_some_iff.1 hi
  obtain ⟨gj, rfl⟩ := List.getElem?_eq_some_iff.1 hj
  have hd := List.pairwise_iff_getElem.1 h.dis
  rcases Nat.lt_or_gt_of_ne hij with h1 | h1
  · exact hd i j gi gj h1 k hk
  · exact fun h2 => hd j i gj gi h1 k h2 hk
theorem ry_overlaps {V D : Sv} {x y : Operand} {f : FuncId} {ts : Array TypeId} {tS tR e T : TypeId} {i j b : Nat} {cs : Array Value} (hx : ev env x = some V.val) (hy : ev env y = some D.val) [hf : OvF P f tS tR] [ht : SliceT P tS e c] (hc : 1 < c) [q : Owns L V enc c xs i] (hv : 0 < xs.length) [hh : Has L b cs T j] (hDn : D.nil = false) (hDs : D.sp = none) (hDb : D.b = b) (hcs : 0 < cs.size) (hij : i ≠ j := by decide) :
    Ry P N w0 env L ⟨d, .call { callee := .value (.func f), args := #[x, y], argTypes := ts }, ty, ps, af, gd⟩ (.bool false) := fun a w ha hw => by
  obtain ⟨r, hrow⟩ := hw.get q.h
  have hVn := r.some hv
  obtain ⟨hVs, cv, Tv, fz, hblk, hsz, hfz, hf0⟩ := hrow hVn
  obtain rfl := hf0 hc
  have hb := hw.block hh.h
  have hne : V.b ≠ b := fun e0 => hw.apart q.h hh.h hij (k := V.b) ⟨hVn, rfl⟩ e0
  subst hDb
  rw [Sv.val_some hVn, hVs] at hx
  rw [Sv.val_some hDn, hDs] at hy
  obtain ⟨fn, h1, h2, h3, h4, h5⟩ := hf.fn
  have hrun := Lib.run_overlaps_apart (P := P) w tS tR e ht.und c (fun w => run_sizeOf' w ht.size) ⟨V.b, V.o, none⟩ ⟨D.b, D.o, none⟩ V.len V.cap D.len D.cap hne Tv T cv.size cs.size (by simp [World.shape?, hblk]) (by simp [World.shape?, hb]) (by omega) (by simp [World.frozen?, hblk]) (by simp [World.frozen?, hblk])
  have hcall := run_callFunc_extern (P := P) h1 h2 h3 h4 h5 #[.slice (some ⟨V.b, V.o, none⟩) V.len V.cap, .slice (some ⟨D.b, D.o, none⟩) D.len D.cap] w
  rw [hrun] at hcall
  have e1 : a.eval (.func f) = .func (.func f) #[] #[] := rfl
  simp [execOp, ha.ev hx, ha.ev hy, resolve, e1, Deferred.ofValue, invoke, hcall, Result.andThen]
end
end Go.Eng

