/- Slices: what they hold, by rows; those that came in and those that the call itself has made. -/
import Derived.Test.YtldkgicmfbofiaaDoorEng
import Derived.Deep.AppendSrc
import Derived.Laws.MakeOwn
import Derived.Laws.Append
import Derived.Laws.Slices
set_option linter.unusedSimpArgs false
set_option linter.unusedVariables false
namespace Go.Eng
open Go.RowKit

/-- A slice's value, by its parts. -/
structure Sv where
  nil : Bool
  b : Nat
  o : Nat
  len : Nat
  cap : Nat
  sp : Option Nat
def Sv.val (s : Sv) : Value := match s.nil with
  | true => .slice none 0 0
  | false => .slice (some ⟨s.b, s.o, s.sp⟩) s.len s.cap
structure Sv.Ok (s : Sv) : Prop where
  nil : s.nil = true → s.len = 0 ∧ s.cap = 0
  le : s.len ≤ s.cap
  bd : s.len ≤ 140737488355328
  sp : 0 < s.cap → s.sp = none
theorem Sv.Ok.some {s : Sv} (h : s.Ok) (hl : 0 < s.len) : s.nil = false := by
  cases hn : s.nil with
  | false => rfl
  | true => have := h.nil hn; omega
theorem Sv.val_some {s : Sv} (h : s.nil = false) : s.val = .slice (some ⟨s.b, s.o, s.sp⟩) s.len s.cap := by simp [Sv.val, h]
theorem Sv.val_nil {s : Sv} (h : s.nil = true) : s.val = .slice none 0 0 := by simp [Sv.val, h]
/-- The nil slice. -/
def Sv.none : Sv := ⟨true, 0, 0, 0, 0, .none⟩
theorem Sv.none_ok : Sv.none.Ok := ⟨fun _ => ⟨rfl, rfl⟩, Nat.le_refl _, Nat.zero_le _, fun _ => rfl⟩
theorem Sv.one (s : Sv) : s.val.oneCell' = true := by unfold Sv.val; split <;> rfl

/-- The cell at a place. -/
def cellH (h : Nat → Option Obj) (b o : Nat) : Option Value := match h b with
  | some (.cells cs _ _) => cs[o]?
  | _ => none
abbrev hp (w : World) : Nat → Option Obj := fun k => w.heap[k]?
theorem cell_hp (w : World) (b o : Nat) : w.cell? ⟨b, o, none⟩ = cellH (hp w) b o := by
  unfold World.cell? cellH
  split <;> simp_all

/-- How a thing lies in c cells. -/
class Enc {α : Type} (enc : α → Array Value) (c : outParam Nat) : Prop where
  size : ∀ x, (enc x).size = c
  one : ∀ x, (enc x).all (·.oneCell') = true

/-- The slice s holds xs. -/
structure Lies {α : Type} (enc : α → Array Value) (c : Nat) (h : Nat → Option Obj) (s : Sv) (xs : List α) : Prop where
  ok : s.Ok
  len : s.len = xs.length
  row : ∀ i x, xs[i]? = some x → ∀ j, j < c → cellH h s.b (s.o + i * c + j) = (enc x)[j]?

theorem Lies.some {α : Type} {enc : α → Array Value} {c : Nat} {h : Nat → Option Obj} {s : Sv} {xs : List α} (r : Lies enc c h s xs) {i : Nat} (hi : i < xs.length) : s.nil = false := r.ok.some (by rw [r.len]; omega)
theorem Lies.nil {α : Type} (enc : α → Array Value) (c : Nat) (h : Nat → Option Obj) : Lies enc c h Sv.none ([] : List α) := ⟨Sv.none_ok, rfl, by simp⟩

theorem Lies.bd {α : Type} {enc : α → Array Value} {c : Nat} {h : Nat → Option Obj} {s : Sv} {xs : List α} (r : Lies enc c h s xs) : xs.length ≤ 140737488355328 := by have := r.ok.bd; have := r.len; omega
/-- What came in stays. -/
theorem Lies.mono {α : Type} {enc : α → Array Value} {c : Nat} [he : Enc enc c] {w w' : World} {s : Sv} {xs : List α} (r : Lies enc c (hp w) s xs) (hb : Below w.heap.size w w') : Lies enc c (hp w') s xs :=
  ⟨r.ok, r.len, fun i x hi j hj => by
    have h := r.row i x hi j hj
    rw [← h]
    have hsome : ((enc x)[j]?).isSome := by rw [Array.getElem?_eq_getElem (by rw [he.size]; exact hj)]; rfl
    rw [← h] at hsome
    have hlt : s.b < w.heap.size := by
      rcases Nat.lt_or_ge s.b w.heap.size with h' | h'
      · exact h'
      · simp [cellH, hp, Array.getElem?_eq_none h'] at hsome
    have e : (hp w') s.b = (hp w) s.b := hb.block s.b hlt
    unfold cellH
    rw [e]⟩

/-- None of n cells is marked. -/
def Free (n : Nat) (fz : Nat × Nat) : Prop := ∀ j, j < n → ¬ (fz.1 ≤ j ∧ j < fz.2)
theorem free_00 (n : Nat) : Free n (0, 0) := fun j _ h => by have := h.2; simp at this
/-- A slice that the call has made, and alone holds. -/
def own {α : Type} (enc : α → Array Value) (c : Nat) (s : Sv) (xs : List α) : Ent :=
  ⟨fun k => s.nil = false ∧ k = s.b, fun h => Lies enc c h s xs ∧ (s.nil = false → s.sp = .none ∧ ∃ cs T fz, h s.b = some (.cells cs T fz) ∧ s.o + s.cap * c ≤ cs.size ∧ Free cs.size fz ∧ (1 < c → fz = (0, 0))),
   fun h h' e st => by
    cases hn : s.nil with
    | true =>
      refine ⟨⟨st.1.ok, st.1.len, fun i x hi => ?_⟩, fun h => by cases h⟩
      have := st.1.some (List.getElem?_eq_some_iff.1 hi).1
      rw [hn] at this; cases this
    | false =>
      have e1 := e s.b ⟨hn, rfl⟩
      refine ⟨⟨st.1.ok, st.1.len, fun i x hi j hj => ?_⟩, fun _ => ?_⟩
      · rw [← st.1.row i x hi j hj]; unfold cellH; rw [e1]
      · rw [e1]; exact st.2 hn⟩

section
variable {P : Program} {N : Fra} {w0 : World} {env : Env} {L : List Ent} {d : Option Tmp} {ty : TypeId} {ps : String} {af : Array Edge} {gd : Option (Nat × Bool)}
variable {α : Type} {enc : α → Array Value} {c : Nat} {s : Sv} {xs : List α}

/-- In all worlds that the frame's facts tell of, s holds xs. -/
def Holds (w0 : World) (L : List Ent) {α : Type} (enc : α → Array Value) (c : Nat) (s : Sv) (xs : List α) : Prop := ∀ w, Mem w0 L w → Lies enc c (hp w) s xs
theorem holds_given [Enc enc c] (r : Lies enc c (hp w0) s xs) : Holds w0 L enc c s xs := fun _ hw => r.mono hw.below
/-- Entry i of L is e. -/
class At (L : List Ent) (e : Ent) (i : outParam Nat) : Prop where
  h : L[i]? = some e
instance (priority := high) At.here {L : List Ent} {e : Ent} : At (e :: L) e 0 := ⟨rfl⟩
instance At.there {L : List Ent} {e x : Ent} {i : Nat} [q : At L e i] : At (x :: L) e (i + 1) := ⟨by simpa using q.h⟩
theorem holds_own {i : Nat} [q : At L (own enc c s xs) i] : Holds w0 L enc c s xs := fun _ hw => (hw.get q.h).1

theorem ry_lenS {t e : TypeId} {x : Operand} {m n : Nat} [ht : SliceT P t e m] (hx : ev env x = some s.val) (hs : s.Ok) (hn : s.len = n) :
    Ry P N w0 env L ⟨d, .call { callee := .builtin .len, args := #[x], argTypes := #[t] }, ty, ps, af, gd⟩ (.int .i64 n) := by
  subst hn
  cases h : s.nil with
  | false => rw [Sv.val_some h] at hx; exact ry_len_slice hx
  | true =>
    rw [Sv.val_nil h] at hx
    rw [(hs.nil h).1]
    exact ry_len_slice hx
theorem ry_idxSv {t e : TypeId} {x ix : Operand} {m i : Nat} {k : IntKind} {j : Int} [ht : SliceT P t e m] (hx : ev env x = some s.val) (hj : ev env ix = some (.int k j)) (ej : j = (i : Int)) (hs : s.Ok) (h1 : i < s.len) :
    Ry P N w0 env L ⟨d, .indexAddr t x ix, ty, ps, af, gd⟩ (.pointer (some ⟨s.b, s.o + i * m, none⟩)) := by
  subst ej
  rw [Sv.val_some (hs.some (by omega)), hs.sp (by have := hs.le; omega)] at hx
  have := ry_idxS (P := P) (N := N) (w0 := w0) (L := L) (d := d) (ty := ty) (ps := ps) (af := af) (gd := gd) (t := t) hx hj (by omega) (by omega)
  simpa using this

/-- Element i, whole: a struct or an array. -/
theorem ry_elem {t : TypeId} {x : Operand} {i p : Nat} {a : α} [ht : RowT P t c] [he : Enc enc c] (hx : ev env x = some (.pointer (some ⟨s.b, p, none⟩))) (hR : Holds w0 L enc c s xs) (hi : xs[i]? = some a) (hp' : p = s.o + i * c) :
    Ry P N w0 env L ⟨d, .load t x, ty, ps, af, gd⟩ (.agg (enc a)) := ry_load_agg ht hx (he.size a) fun w hw j hj => by
  rw [Addr.add_none, cell_hp, hp', (hR w hw).row i a hi j hj]
/-- A cell of element i. -/
theorem ry_elemc {t : TypeId} {x : Operand} {i p j : Nat} {a : α} {v : Value} [ht : OneT P t] (hx : ev env x = some (.pointer (some ⟨s.b, p, none⟩))) (hR : Holds w0 L enc c s xs) (hi : xs[i]? = some a) (hp' : p = s.o + i * c + j) (hj : j < c) (hv : (enc a)[j]? = some v) :
    Ry P N w0 env L ⟨d, .load t x, ty, ps, af, gd⟩ v := ry_load_one ht hx fun w hw => by
  rw [cell_hp, hp', (hR w hw).row i a hi j hj, hv]
/-- A part of element i. -/
theorem ry_elemp {t : TypeId} {x : Operand} {i p j n : Nat} {a : α} {sub : Array Value} [ht : RowT P t n] (hx : ev env x = some (.pointer (some ⟨s.b, p, none⟩))) (hR : Holds w0 L enc c s xs) (hi : xs[i]? = some a) (hp' : p = s.o + i * c + j) (hj : j + n ≤ c) [hs : PartAt (enc a) j n sub] :
    Ry P N w0 env L ⟨d, .load t x, ty, ps, af, gd⟩ (.agg sub) := ry_load_agg ht hx hs.size fun w hw k hk => by
  rw [Addr.add_none, cell_hp, hp', Nat.add_assoc, (hR w hw).row i a hi (j + k) (by omega)]; exact hs.h k hk

/-! Slices of slices. -/
def Sv.sub (s : Sv) (c lo hi : Nat) : Sv := ⟨s.nil, s.b, if s.cap = lo then s.o else s.o + lo * c, hi - lo, s.cap - lo, s.sp⟩
theorem Sv.Ok.sub {lo hi : Nat} (h : s.Ok) (h2 : hi ≤ s.cap) (h3 : hi ≤ s.len) : (s.sub c lo hi).Ok :=
  ⟨fun hn => by have := h.nil hn; simp only [Sv.sub]; omega, by simp only [Sv.sub]; omega, by have := h.bd; simp only [Sv.sub]; omega, fun hc => h.sp (by simp only [Sv.sub] at hc; omega)⟩
theorem Lies.sub {h : Nat → Option Obj} (r : Lies enc c h s xs) {lo hi : Nat} (h1 : lo ≤ hi) (h2 : hi ≤ xs.length) : Lies enc c h (s.sub c lo hi) ((xs.drop lo).take (hi - lo)) := by
  have hl := r.len
  have hc := r.ok.le
  refine ⟨r.ok.sub (by omega) (by omega), by simp [Sv.sub]; omega, fun i x hi' j hj => ?_⟩
  have hlt : i < hi - lo := by
    have := (List.getElem?_eq_some_iff.1 hi').1
    simp at this; omega
  rw [List.getElem?_take, if_pos hlt, List.getElem?_drop] at hi'
  have := r.row (lo + i) x hi' j hj
  rw [← this]
  have e : (s.sub c lo hi).o = s.o + lo * c := by
    simp only [Sv.sub]; rw [if_neg (by omega)]
  rw [e, show (s.sub c lo hi).b = s.b from rfl]
  congr 1
  rw [Nat.add_mul]; omega
theorem Holds.sub (r : Holds w0 L enc c s xs) {lo hi : Nat} (h1 : lo ≤ hi) (h2 : hi ≤ xs.length) : Holds w0 L enc c (s.sub c lo hi) ((xs.drop lo).take (hi - lo)) := fun w hw => (r w hw).sub h1 h2

theorem elem_of {t e : TypeId} (hu : P.underlying t = some (.slice e)) : P.elem t = e := by simp [Program.elem, hu]
theorem slicedSv {lo hi : Nat} (hs : s.Ok) (h2 : lo ≤ hi) (h : hi ≤ s.cap) : ∀ a len cap, s.val = .slice a len cap → len = s.len ∧ cap = s.cap ∧ sliced a lo hi cap c = (s.sub c lo hi).val := by
  intro a len cap e
  cases hn : s.nil with
  | true =>
    rw [Sv.val_nil hn] at e
    obtain ⟨rfl, rfl, rfl⟩ := by simpa using e
    have := hs.nil hn
    have e2 : (s.sub c lo hi).nil = true := hn
    rw [Sv.val_nil e2]
    have : lo = 0 := by omega
    have : hi = 0 := by omega
    subst lo hi
    exact ⟨by omega, by omega, by simp [sliced]⟩
  | false =>
    rw [Sv.val_some hn] at e
    obtain ⟨rfl, rfl, rfl⟩ := by simpa using e
    have e2 : (s.sub c lo hi).nil = false := hn
    rw [Sv.val_some e2]
    refine ⟨rfl, rfl, ?_⟩
    simp only [sliced, Sv.sub]
    by_cases hc : s.cap = lo
    · simp [hc]
    · have hsp := hs.sp (by omega)
      simp [hc, hsp, Addr.add_none]
theorem Sv.ex (s : Sv) : ∃ ad len cap, s.val = .slice ad len cap := by unfold Sv.val; split <;> exact ⟨_, _, _, rfl⟩
theorem ry_subS {t e : TypeId} {x lo hi : Operand} {m l h : Nat} {k k' : IntKind} {il ih : Int} [ht : SliceT P t e m] (hx : ev env x = some s.val) (hl : ev env lo = some (.int k il)) (hh : ev env hi = some (.int k' ih)) (el : il = (l : Int)) (eh : ih = (h : Int)) (hs : s.Ok) (h1 : l ≤ h) (h2 : h ≤ s.cap) :
    Ry P N w0 env L ⟨d, .slice t x (some lo) (some hi) none, ty, ps, af, gd⟩ (s.sub m l h).val := fun a w ha _ => by
  subst el eh
  have ee := elem_of ht.und
  have hu : P.underlying t = some (.slice (P.elem t)) := by rw [ee]; exact ht.und
  obtain ⟨ad, len, cap, ev'⟩ := s.ex
  obtain ⟨e1, e2, e3⟩ := slicedSv (c := m) hs h1 h2 ad len cap ev'
  have hr := run_slice_lh (P := P) (w := w) t ad len cap hu k k' (l : Int) (h : Int) (by omega) (by omega) (by omega)
  rw [ee, run_sizeOf' w ht.size] at hr
  simp only [Result.andThen, Int.toNat_natCast, e3] at hr
  simp only [execOp, ha.ev hx, ha.ev hl, ha.ev hh, ev', Option.map_some, Option.map_none, run_sliceAt_slice (h := hu), hr, Sem.run_bind, Result.andThen, Sem.run_pure]
theorem ry_subS_hi {t e : TypeId} {x hi : Operand} {m h : Nat} {k' : IntKind} {ih : Int} [ht : SliceT P t e m] (hx : ev env x = some s.val) (hh : ev env hi = some (.int k' ih)) (eh : ih = (h : Int)) (hs : s.Ok) (h2 : h ≤ s.cap) :
    Ry P N w0 env L ⟨d, .slice t x none (some hi) none, ty, ps, af, gd⟩ (s.sub m 0 h).val := fun a w ha _ => by
  subst eh
  have ee := elem_of ht.und
  have hu : P.underlying t = some (.slice (P.elem t)) := by rw [ee]; exact ht.und
  obtain ⟨ad, len, cap, ev'⟩ := s.ex
  obtain ⟨e1, e2, e3⟩ := slicedSv (c := m) hs (Nat.zero_le h) h2 ad len cap ev'
  have hr := run_slice_h (P := P) (w := w) t ad len cap hu k' (h : Int) (by omega) (by omega)
  rw [ee, run_sizeOf' w ht.size] at hr
  simp only [Result.andThen, Int.toNat_natCast, e3] at hr
  simp only [execOp, ha.ev hx, ha.ev hh, ev', Option.map_some, Option.map_none, run_sliceAt_slice (h := hu), hr, Sem.run_bind, Result.andThen, Sem.run_pure]
theorem ry_subS_lo {t e : TypeId} {x lo : Operand} {m l n : Nat} {k : IntKind} {il : Int} [ht : SliceT P t e m] (hx : ev env x = some s.val) (hl : ev env lo = some (.int k il)) (el : il = (l : Int)) (hs : s.Ok) (hn : s.len = n) (h1 : l ≤ n) :
    Ry P N w0 env L ⟨d, .slice t x (some lo) none none, ty, ps, af, gd⟩ (s.sub m l n).val := fun a w ha _ => by
  subst el hn
  have ee := elem_of ht.und
  have hu : P.underlying t = some (.slice (P.elem t)) := by rw [ee]; exact ht.und
  obtain ⟨ad, len, cap, ev'⟩ := s.ex
  obtain ⟨e1, e2, e3⟩ := slicedSv (c := m) hs h1 hs.le ad len cap ev'
  have hle := hs.le
  have hr := run_slice_l (P := P) (w := w) t ad len cap hu k (l : Int) (by omega) (by omega)
  rw [ee, run_sizeOf' w ht.size] at hr
  simp only [Result.andThen, Int.toNat_natCast, e1] at hr
  rw [e1] at ev'
  rw [e3] at hr
  simp only [execOp, ha.ev hx, ha.ev hl, ev', Option.map_some, Option.map_none, run_sliceAt_slice (h := hu), hr, Sem.run_bind, Result.andThen, Sem.run_pure]
end

end Go.Eng
