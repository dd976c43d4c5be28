/- Values that reach memory: what they reach lies there, or is held alone. Contracts of functions, as classes. -/
import Derived.Test.YtklhkejhndnhbaaC1
import Derived.Laws.Cover3
import Derived.Deep.Slices
import Derived.HandedShaped
import Derived.Test.YtklhkejhndnhbaaRows
import Derived.DeepKeys
import Derived.Lib.BytesEntry

set_option linter.unusedSimpArgs false
set_option linter.unusedVariables false
namespace Go.Eng
open Go.RowKit

/-! Entries put together. -/
def Ent.emp : Ent := ⟨fun _ => False, fun _ => True, fun _ _ _ s => s⟩
def Ent.two (a b : Ent) : Ent := ⟨fun k => a.fp k ∨ b.fp k, fun h => a.sat h ∧ b.sat h ∧ ∀ k, a.fp k → ¬ b.fp k,
  fun h h' e s => ⟨a.loc h h' (fun k hk => e k (.inl hk)) s.1, b.loc h h' (fun k hk => e k (.inr hk)) s.2.1, s.2.2⟩⟩
def Ent.all : List Ent → Ent
  | [] => .emp
  | e :: r => .two e (.all r)

theorem Mem.emp_iff {w0 w : World} {L : List Ent} : Mem w0 (.emp :: L) w ↔ Mem w0 L w :=
  ⟨fun h => h.sub (List.sublist_cons_self _ _), fun h => ⟨h.below, fun e he => by
    rcases List.mem_cons.1 he with rfl | he
    · exact trivial
    · exact h.sat e he, fun e he k hk => by
    rcases List.mem_cons.1 he with rfl | he
    · exact hk.elim
    · exact h.dom e he k hk, List.pairwise_cons.2 ⟨fun _ _ _ hk => hk.elim, h.dis⟩⟩⟩
theorem Mem.two_iff {w0 w : World} {a b : Ent} {L : List Ent} : Mem w0 (.two a b :: L) w ↔ Mem w0 (a :: b :: L) w := by
  constructor
  · intro h
    have hs : (a.sat fun k => w.heap[k]?) ∧ (b.sat fun k => w.heap[k]?) ∧ ∀ k, a.fp k → ¬ b.fp k := h.sat (.two a b) (by simp)
    have hd := List.pairwise_cons.1 h.dis
    refine ⟨h.below, fun e he => ?_, fun e he k hk => ?_, ?_⟩
    · rcases List.mem_cons.1 he with rfl | he
      · exact hs.1
      · rcases List.mem_cons.1 he with rfl | he
        · exact hs.2.1
        · exact h.sat e (by simp [he])
    · rcases List.mem_cons.1 he with rfl | he
      · exact h.dom (.two e b) (by simp) k (.inl hk)
      · rcases List.mem_cons.1 he with rfl | he
        · exact h.dom (.two a e) (by simp) k (.inr hk)
        · exact h.dom e (by simp [he]) k hk
    · refine List.pairwise_cons.2 ⟨fun x hx k hk => ?_, List.pairwise_cons.2 ⟨fun x hx k hk => hd.1 x hx k (.inr hk), hd.2⟩⟩
      rcases List.mem_cons.1 hx with rfl | hx
      · exact hs.2.2 k hk
      · exact hd.1 x hx k (.inl hk)
  · intro h
    have hd := List.pairwise_cons.1 h.dis
    have hd2 := List.pairwise_cons.1 hd.2
    refine ⟨h.below, fun e he => ?_, fun e he k hk => ?_, List.pairwise_cons.2 ⟨fun x hx k hk => ?_, hd2.2⟩⟩
    · rcases List.mem_cons.1 he with rfl | he
      · exact ⟨h.sat a (by simp), h.sat b (by simp), fun k hk => hd.1 b (by simp) k hk⟩
      · exact h.sat e (by simp [he])
    · rcases List.mem_cons.1 he with rfl | he
      · rcases hk with hk | hk
        · exact h.dom a (by simp) k hk
        · exact h.dom b (by simp) k hk
      · exact h.dom e (by simp [he]) k hk
    · rcases hk with hk | hk
      · exact hd.1 x (by simp [hx]) k hk
      · exact hd2.1 x hx k hk
theorem Mem.head_congr {w0 w : World} {a : Ent} {L L' : List Ent} (h : Mem w0 (a :: L) w) (hl : ∀ w, Mem w0 L w → Mem w0 L' w) (hf : ∀ k, (∃ e ∈ L', e.fp k) → ∃ e ∈ L, e.fp k) : Mem w0 (a :: L') w := by
  have h' := hl w (h.sub (List.sublist_cons_self _ _))
  have hd := List.pairwise_cons.1 h.dis
  refine ⟨h.below, fun e he => ?_, fun e he k hk => ?_, List.pairwise_cons.2 ⟨fun x hx k hk hk' => ?_, h'.dis⟩⟩
  · rcases List.mem_cons.1 he with rfl | he
    · exact h.sat e (by simp)
    · exact h'.sat e he
  · rcases List.mem_cons.1 he with rfl | he
    · exact h.dom e (by simp) k hk
    · exact h'.dom e he k hk
  · obtain ⟨e, he, hk2⟩ := hf k ⟨x, hx, hk'⟩
    exact hd.1 e he k hk hk2
theorem Mem.all_iff {w0 w : World} : ∀ (es : List Ent) {L : List Ent}, Mem w0 (.all es :: L) w ↔ Mem w0 (es ++ L) w
  | [], _ => Mem.emp_iff
  | e :: r, L => by
    show Mem w0 (.two e (.all r) :: L) w ↔ _
    rw [Mem.two_iff]
    have sw : ∀ (a b : Ent) (K : List Ent), Mem w0 (a :: b :: K) w ↔ Mem w0 (b :: a :: K) w := fun a b K => ⟨fun h => h.perm (List.Perm.swap _ _ _), fun h => h.perm (List.Perm.swap _ _ _)⟩
    rw [sw, Mem.all_iff r]
    exact ⟨fun h => h.perm (List.perm_middle), fun h => h.perm (List.perm_middle).symm⟩

/-! Values that reach memory. -/
class Deep (τ : Type) where
  c : Nat
  cells : τ → Array Value
  size : ∀ x, (cells x).size = c
  one : ∀ x, (cells x).all (·.oneCell') = true
  good : (Nat → Option Obj) → τ → Prop
  ent : τ → Ent
  good_of : ∀ h x, (ent x).sat h → good h x
  mono : ∀ (w w' : World) x, good (hp w) x → Below w.heap.size w w' → good (hp w') x
instance Deep.enc {τ : Type} [Deep τ] : Enc (Deep.cells (τ := τ)) (Deep.c τ) := ⟨Deep.size, Deep.one⟩
@[reducible] def Deep.flat {τ : Type} (enc : τ → Array Value) (c : Nat) [he : Enc enc c] : Deep τ := ⟨c, enc, he.size, he.one, fun _ _ => True, fun _ => .emp, fun _ _ _ => trivial, fun _ _ _ _ _ => trivial⟩
structure Sl (τ : Type) where
  sv : Sv
  xs : List τ
theorem Ent.all_sat {h : Nat → Option Obj} : ∀ {es : List Ent}, (Ent.all es).sat h → ∀ e ∈ es, e.sat h
  | [], _, _, he => by cases he
  | _ :: _, hs, e, he => by
    rcases List.mem_cons.1 he with rfl | he
    · exact hs.1
    · exact Ent.all_sat hs.2.1 e he
instance Deep.slice {τ : Type} [d : Deep τ] : Deep (Sl τ) where
  c := 1
  cells a := senc a.sv
  size _ := rfl
  one a := Enc.one (enc := senc) (c := 1) a.sv
  good h a := Lies (Deep.cells (τ := τ)) (Deep.c τ) h a.sv a.xs ∧ ∀ x ∈ a.xs, d.good h x
  ent a := .two (own (Deep.cells (τ := τ)) (Deep.c τ) a.sv a.xs) (.all (a.xs.map d.ent))
  good_of h _ hs := ⟨hs.1.1, fun x hx => d.good_of h x (Ent.all_sat hs.2.1 _ (List.mem_map_of_mem hx))⟩
  mono w w' _ hg hb := ⟨hg.1.mono hb, fun x hx => d.mono w w' x (hg.2 x hx) hb⟩
theorem Mem.open_sl {τ : Type} [d : Deep τ] {w0 w : World} {L : List Ent} {a : Sl τ} : Mem w0 (Deep.ent a :: L) w ↔ Mem w0 (own (Deep.cells (τ := τ)) (Deep.c τ) a.sv a.xs :: a.xs.map d.ent ++ L) w := by
  show Mem w0 (.two _ (.all _) :: L) w ↔ _
  rw [Mem.two_iff]
  have sw : ∀ (a b : Ent) (K : List Ent), Mem w0 (a :: b :: K) w ↔ Mem w0 (b :: a :: K) w := fun a b K => ⟨fun h => h.perm (List.Perm.swap _ _ _), fun h => h.perm (List.Perm.swap _ _ _)⟩
  rw [sw, Mem.all_iff]
  exact ⟨fun h => h.perm (List.perm_middle), fun h => h.perm (List.perm_middle).symm⟩

/-! What is known of a slice or a value in all worlds that the frame's facts tell of. -/
section
variable {w0 : World} {L : List Ent} {τ : Type}
class Hd (w0 : World) (L : List Ent) (s : Sv) {α : outParam Type} (enc : outParam (α → Array Value)) (c : outParam Nat) (xs : outParam (List α)) : Prop where
  h : Holds w0 L enc c s xs
class Gv (w0 : World) (s : Sv) {α : outParam Type} (enc : outParam (α → Array Value)) (c : outParam Nat) (xs : outParam (List α)) : Prop where
  h : Lies enc c (hp w0) s xs
instance (priority := high) Hd.owned {s : Sv} {α : Type} {enc : α → Array Value} {c : Nat} {xs : List α} {i : Nat} [q : Owns L s enc c xs i] : Hd w0 L s enc c xs := ⟨q.holds⟩
instance Hd.given {s : Sv} {α : Type} {enc : α → Array Value} {c : Nat} {xs : List α} [q : Gv w0 s enc c xs] [Enc enc c] : Hd w0 L s enc c xs := ⟨holds_given q.h⟩
class Rg (lo hi n : Nat) : Prop where
  h : lo ≤ hi ∧ hi ≤ n
instance Hd.sub {s : Sv} {α : Type} {enc : α → Array Value} {c : Nat} {xs : List α} {lo hi : Nat} [q : Hd w0 L s enc c xs] [r : Rg lo hi xs.length] : Hd w0 L (s.sub c lo hi) enc c ((xs.drop lo).take (hi - lo)) := ⟨q.h.sub r.h.1 r.h.2⟩
class HdE (w0 : World) (L : List Ent) {α : Type} (enc : α → Array Value) (c : Nat) (s : Sv) (xs : outParam (List α)) : Prop where
  h : Holds w0 L enc c s xs
instance (priority := high) HdE.of {s : Sv} {α : Type} {enc : α → Array Value} {c : Nat} {xs : List α} [q : Hd w0 L s enc c xs] : HdE w0 L enc c s xs := ⟨q.h⟩
instance HdE.none {α : Type} {enc : α → Array Value} {c : Nat} : HdE w0 L enc c Sv.none [] := ⟨fun _ _ => Lies.nil enc c _⟩

class HdD (w0 : World) (L : List Ent) {τ : Type} [Deep τ] (a : τ) : Prop where
  h : ∀ w, Mem w0 L w → Deep.good (hp w) a
class GvD (w0 : World) {τ : Type} [Deep τ] (a : τ) : Prop where
  h : Deep.good (hp w0) a
class Mb {τ : Type} (x : τ) (a : outParam (Sl τ)) : Prop where
  h : x ∈ a.xs
instance HdD.given [Deep τ] {a : τ} [q : GvD w0 a] : HdD w0 L a := ⟨fun _ hw => Deep.mono w0 _ a q.h hw.below⟩
instance (priority := high) HdD.owned [Deep τ] {a : τ} {i : Nat} [q : At L (Deep.ent a) i] : HdD w0 L a := ⟨fun _ hw => Deep.good_of _ a (hw.get q.h)⟩
instance (priority := low) HdD.elem [Deep τ] {a : Sl τ} {x : τ} [q : HdD w0 L a] [m : Mb x a] : HdD w0 L x := ⟨fun w hw => (q.h w hw).2 x m.h⟩
class FlatT (τ : Type) [Deep τ] (enc : outParam (τ → Array Value)) (c : outParam Nat) : Prop where
  hc : Deep.c τ = c
  h : ∀ x : τ, Deep.cells x = enc x
instance (priority := low) Hd.deep [d : Deep τ] {enc : τ → Array Value} {c : Nat} [f : FlatT τ enc c] {a : Sl τ} [q : HdD w0 L a] : Hd w0 L a.sv enc c a.xs := ⟨fun w hw => by
  have h := (q.h w hw).1
  have e : Deep.cells (τ := τ) = enc := funext f.h
  rw [← e, ← f.hc]; exact h⟩
end

/-! Rules over what is known. -/
section
variable {P : Program} {N : Fra} {w0 : World} {env : Env} {L : List Ent} {d : Option Tmp} {ty : TypeId} {ps : String} {af : Array Edge} {gd : Option (Nat × Bool)}
variable {α : Type} {enc : α → Array Value} {c : Nat} {s : Sv} {xs : List α}
theorem ry_lenH {t e : TypeId} {x : Operand} {m : Nat} [ht : SliceT P t e m] (hx : ev env x = some s.val) [q : Hd w0 L s enc c xs] :
    Ry P N w0 env L ⟨d, .call { callee := .builtin .len, args := #[x], argTypes := #[t] }, ty, ps, af, gd⟩ (.int .i64 (xs.length : Nat)) := fun a w ha hw =>
  ry_lenS (P := P) (N := N) (w0 := w0) (L := L) (d := d) (ty := ty) (ps := ps) (af := af) (gd := gd) hx (q.h w hw).ok (q.h w hw).len a w ha hw
theorem ry_idxH {t e : TypeId} {x ix : Operand} {m : Nat} {k : IntKind} {j : Int} [ht : SliceT P t e m] (hx : ev env x = some s.val) (hj : ev env ix = some (.int k j)) [q : Hd w0 L s enc c xs] (i : Nat) (ej : j = (i : Int)) (h1 : i < xs.length) :
    Ry P N w0 env L ⟨d, .indexAddr t x ix, ty, ps, af, gd⟩ (.pointer (some ⟨s.b, s.o + i * m, none⟩)) := fun a w ha hw =>
  ry_idxSv (P := P) (N := N) (w0 := w0) (L := L) (d := d) (ty := ty) (ps := ps) (af := af) (gd := gd) hx hj ej (q.h w hw).ok (by rw [(q.h w hw).len]; exact h1) a w ha hw
theorem ry_elemH {t : TypeId} {x : Operand} {p : Nat} {a : α} [ht : RowT P t c] [he : Enc enc c] [q : Hd w0 L s enc c xs] (hx : ev env x = some (.pointer (some ⟨s.b, p, none⟩))) (i : Nat) (hi : xs[i]? = some a) (hp' : p = s.o + i * c) :
    Ry P N w0 env L ⟨d, .load t x, ty, ps, af, gd⟩ (.agg (enc a)) := ry_elem hx q.h hi hp'
theorem ry_elemcH {t : TypeId} {x : Operand} {p j : Nat} {a : α} {v : Value} [ht : OneT P t] [q : Hd w0 L s enc c xs] (hx : ev env x = some (.pointer (some ⟨s.b, p, none⟩))) (i : Nat) (hi : xs[i]? = some a) (hp' : p = s.o + i * c + j) (hj : j < c) [hv : CellAt (enc a) j v] :
    Ry P N w0 env L ⟨d, .load t x, ty, ps, af, gd⟩ v := ry_elemc hx q.h hi hp' hj hv.h
theorem ry_elempH {t : TypeId} {x : Operand} {p j n : Nat} {a : α} {sub : Array Value} [ht : RowT P t n] [q : Hd w0 L s enc c xs] (hx : ev env x = some (.pointer (some ⟨s.b, p, none⟩))) (i : Nat) (hi : xs[i]? = some a) (hp' : p = s.o + i * c + j) (hj : j + n ≤ c) [hs : PartAt (enc a) j n sub] :
    Ry P N w0 env L ⟨d, .load t x, ty, ps, af, gd⟩ (.agg sub) := ry_elemp hx q.h hi hp' hj
theorem ry_subH {t e : TypeId} {x lo hi : Operand} {k k' : IntKind} {il ih : Int} [ht : SliceT P t e c] (hx : ev env x = some s.val) (hl : ev env lo = some (.int k il)) (hh : ev env hi = some (.int k' ih)) [q : Hd w0 L s enc c xs] (l h : Nat) (el : il = (l : Int)) (eh : ih = (h : Int)) (h1 : l ≤ h) (h2 : h ≤ xs.length) :
    Ry P N w0 env L ⟨d, .slice t x (some lo) (some hi) none, ty, ps, af, gd⟩ (s.sub c l h).val := fun a w ha hw =>
  ry_subS (P := P) (N := N) (w0 := w0) (L := L) (d := d) (ty := ty) (ps := ps) (af := af) (gd := gd) hx hl hh el eh (q.h w hw).ok h1 (by have := (q.h w hw).len; have := (q.h w hw).ok.le; omega) a w ha hw
theorem ry_subH_hi {t e : TypeId} {x hi : Operand} {k' : IntKind} {ih : Int} [ht : SliceT P t e c] (hx : ev env x = some s.val) (hh : ev env hi = some (.int k' ih)) [q : Hd w0 L s enc c xs] (h : Nat) (eh : ih = (h : Int)) (h2 : h ≤ xs.length) :
    Ry P N w0 env L ⟨d, .slice t x none (some hi) none, ty, ps, af, gd⟩ (s.sub c 0 h).val := fun a w ha hw =>
  ry_subS_hi (P := P) (N := N) (w0 := w0) (L := L) (d := d) (ty := ty) (ps := ps) (af := af) (gd := gd) hx hh eh (q.h w hw).ok (by have := (q.h w hw).len; have := (q.h w hw).ok.le; omega) a w ha hw
theorem ry_subH_lo {t e : TypeId} {x lo : Operand} {k : IntKind} {il : Int} [ht : SliceT P t e c] (hx : ev env x = some s.val) (hl : ev env lo = some (.int k il)) [q : Hd w0 L s enc c xs] (l : Nat) (el : il = (l : Int)) (h1 : l ≤ xs.length) :
    Ry P N w0 env L ⟨d, .slice t x (some lo) none none, ty, ps, af, gd⟩ (s.sub c l xs.length).val := fun a w ha hw =>
  ry_subS_lo (P := P) (N := N) (w0 := w0) (L := L) (d := d) (ty := ty) (ps := ps) (af := af) (gd := gd) hx hl el (q.h w hw).ok (q.h w hw).len h1 a w ha hw
theorem ry_bstrH {t e tb : TypeId} {x : Operand} {xs : List UInt8} (hs : P.underlying tb = some (.slice e)) (he : P.underlying e = some (.int .u8)) (hd : P.underlying t = some .string) (hx : ev env x = some s.val) [q : Hd w0 L s benc 1 xs] :
    Ry P N w0 env L ⟨d, .convert tb t x, ty, ps, af, gd⟩ (.string ⟨xs.toArray⟩) := ry_bstr hs he hd hx q.h
theorem ry_conv_u8 {s t : TypeId} {x : Operand} {k : IntKind} {b : UInt8} [hs : IntT P s .u8] [ht : IntT P t k] (hx : ev env x = some (.int .u8 b.toNat)) (hk : 8 ≤ nb k := by decide) :
    Ry P N w0 env L ⟨d, .convert s t x, ty, ps, af, gd⟩ (.int k b.toNat) := ry_convn hx (Nat.lt_of_lt_of_le b.toNat_lt (Nat.pow_le_pow_right (by decide) hk))
theorem ry_conv_u16 {s t : TypeId} {x : Operand} {k : IntKind} {b : UInt16} [hs : IntT P s .u16] [ht : IntT P t k] (hx : ev env x = some (.int .u16 b.toNat)) (hk : 16 ≤ nb k := by decide) :
    Ry P N w0 env L ⟨d, .convert s t x, ty, ps, af, gd⟩ (.int k b.toNat) := ry_convn hx (Nat.lt_of_lt_of_le b.toNat_lt (Nat.pow_le_pow_right (by decide) hk))
end

/-! Contracts as classes. -/
section
variable {P : Program} {N : Fra} {w0 : World} {env : Env} {L : List Ent} {l : List Oper} {Q : Exit → Act → World → Prop} {rest : List Oper} {d : Option Tmp} {ty : TypeId} {ps : String} {af : Array Edge} {gd : Option (Nat × Bool)}
class FnQ (P : Program) (f : FuncId) (w0 : World) (L : List Ent) (vs : List Value) (v : outParam Value) (pre : outParam Prop) : Prop where
  h : pre → ∀ w, Mem w0 L w → Calls P f vs.toArray w fun e w' => e = .returned v ∧ Mem w [] w'
class FnC (P : Program) (f : FuncId) (w0 : World) (L : List Ent) (vs : List Value) (X : outParam Type) (val : outParam (X → Value)) (L' : outParam (X → List Ent)) (pr : outParam (X → Prop)) (pre : outParam Prop) : Prop where
  h : pre → ∀ w, Mem w0 L w → Calls P f vs.toArray w fun e w' => ∃ x, e = .returned (val x) ∧ pr x ∧ Mem w0 (L' x) w'
instance (priority := high) FnQ.pure {f : FuncId} {vs : List Value} {v : Value} [h : PureFn P f vs v] : FnQ P f w0 L vs v True := ⟨fun _ w _ => h.h w⟩
theorem yl_callC {f : FuncId} {xs : List Operand} {ts : Array TypeId} {vs : List Value} {v : Value} {pre : Prop} [hf : IsFn P f] (hx : evl env xs = some vs) [hc : FnQ P f w0 L vs v pre] (hp : pre) :
    Yl P N w0 env L ⟨d, .call { callee := .value (.func f), args := xs.toArray, argTypes := ts }, ty, ps, af, gd⟩ v := yl_call hx fun w hw => hc.h hp w hw
theorem sq_callC {X : Type} {val : X → Value} {L' : X → List Ent} {pr : X → Prop} {pre : Prop} {f : FuncId} {xs : List Operand} {ts : Array TypeId} {vs : List Value} [hf : IsFn P f] (hx : evl env xs = some vs)
    [hc : FnC P f w0 L vs X val L' pr pre] (hp : pre) (hk : ∀ x, pr x → Sq P N w0 l Q rest (putE env d (val x)) (L' x)) (hd : dstOk N d = true := by rfl) :
    Sq P N w0 l Q (⟨d, .call { callee := .value (.func f), args := xs.toArray, argTypes := ts }, ty, ps, af, none⟩ :: rest) env L := sq_callG hx (fun w hw => hc.h hp w hw) hk hd
theorem fr_callC {Lq : List Ent} {n j : Nat} {js : List Nat} {X : Type} {val : X → Value} {L' : X → List Ent} {pr : X → Prop} {pre : Prop} {f : FuncId} {xs : List Operand} {ts : Array TypeId} {vs : List Value} (hj : l[j]? = some ⟨d, .call { callee := .value (.func f), args := xs.toArray, argTypes := ts }, ty, ps, af, none⟩) [hf : IsFn P f] (hx : evl env xs = some vs)
    [hc : FnC P f w0 L vs X val L' pr pre] (hp : pre) (hL : ∀ x w, Mem w0 (L' x) w → Mem w0 Lq w) (hk : ∀ x, pr x → Fr P N w0 Lq l n Q js (putE env d (val x)) (L' x)) (hd : dstOk N d = true := by rfl) :
    Fr P N w0 Lq l n Q (j :: js) env L := fr_callG hj hx (fun w hw => hc.h hp w hw) hL hk hd
theorem sq_gcallC {X : Type} {val : X → Value} {L' : X → List Ent} {pr : X → Prop} {pre : Prop} {f : FuncId} {xs : List Operand} {ts : Array TypeId} {vs : List Value} {j t : Nat} {g : Bool} [hf : IsFn P f] (hj : (l[j]?).bind (·.dst) = some t) (hv : look env t = some (.bool g)) (hx : g = true → evl env xs = some vs)
    [hc : FnC P f w0 L vs X val L' pr pre] (hp : g = true → pre) (hk : ∀ x, (g = true → pr x) → Sq P N w0 l Q rest (putE env d (if g = true then val x else undef)) (if g = true then L' x else L)) (x0 : X) (hd : dstOk N d = true := by rfl) :
    Sq P N w0 l Q (⟨d, .call { callee := .value (.func f), args := xs.toArray, argTypes := ts }, ty, ps, af, some (j, true)⟩ :: rest) env L := by
  cases g
  · intro a w ha hw
    unfold wpList
    rw [wanted_some ha rfl hj hv]
    have := hk x0 (fun h => by cases h) (a.put d undef) w (by simpa using ha.put hd undef) (by simpa using hw)
    simpa using this
  · intro a w ha hw
    unfold wpList
    rw [wanted_some ha rfl hj hv]
    refine .inl ?_
    unfold Oper.wp
    rw [run_call hf w rfl, ha.evl (hx rfl)]
    exact (hc.h (hp rfl) w hw).mono fun e w' ⟨x, he, hpx, hm⟩ => by subst he; exact hk x (fun _ => hpx) _ _ (by simpa using ha.put hd _) (by simpa using hm)
end

/-! What is left of the memory told. -/
class DelI (L : List Ent) (i : Nat) (R : outParam (List Ent)) : Prop where
  h : L.eraseIdx i = R
instance DelI.here {e : Ent} {L : List Ent} : DelI (e :: L) 0 L := ⟨rfl⟩
instance DelI.there {e : Ent} {L R : List Ent} {i : Nat} [q : DelI L i R] : DelI (e :: L) (i + 1) (e :: R) := ⟨by simp [q.h]⟩
class Keep (L L' : List Ent) : Prop where
  h : ∃ R, L.Perm (L' ++ R)
instance (priority := high) Keep.nil {L : List Ent} : Keep L [] := ⟨⟨L, .refl _⟩⟩
instance (priority := high) Keep.same {L : List Ent} : Keep L L := ⟨⟨[], by simp⟩⟩
theorem perm_erase {e : Ent} : ∀ {L : List Ent} {i : Nat}, L[i]? = some e → L.Perm (e :: L.eraseIdx i)
  | [], i, h => by simp at h
  | x :: L, 0, h => by obtain rfl : x = e := by simpa using h
                       simp
  | x :: L, i + 1, h => by
    have := perm_erase (L := L) (i := i) (by simpa using h)
    rw [List.eraseIdx_cons_succ]
    exact (this.cons x).trans (.swap _ _ _)
instance Keep.cons {L L' R : List Ent} {e : Ent} {i : Nat} [a : At L e i] [b : DelI L i R] [k : Keep R L'] : Keep L (e :: L') := ⟨by
  obtain ⟨S, hS⟩ := k.h
  exact ⟨S, (perm_erase a.h).trans (by rw [b.h]; exact hS.cons e)⟩⟩
theorem Keep.mem {L L' : List Ent} [k : Keep L L'] {w0 w : World} (h : Mem w0 L w) : Mem w0 L' w := by
  obtain ⟨R, hR⟩ := k.h
  exact (h.perm hR).sub (List.sublist_append_left _ _)
theorem sq_mem {P : Program} {N : Fra} {w0 : World} {env : Env} {L : List Ent} {l : List Oper} {Q : Exit → Act → World → Prop} {rest : List Oper} (L' : List Ent) (h : ∀ w, Mem w0 L w → Mem w0 L' w) (hk : Sq P N w0 l Q rest env L') : Sq P N w0 l Q rest env L := fun a w ha hw => hk a w ha (h w hw)
theorem cw_mem {P : Program} {N : Fra} {w0 : World} {env : Env} {L : List Ent} {Q : Exit → Act → World → Prop} {c : Code} (L' : List Ent) (h : ∀ w, Mem w0 L w → Mem w0 L' w) (hk : Cw P N w0 Q c env L') : Cw P N w0 Q c env L := fun a w ha hw => hk a w ha (h w hw)

theorem cw_bd {P : Program} {N : Fra} {w0 : World} {env : Env} {L : List Ent} {Q : Exit → Act → World → Prop} {c : Code} (s : Sv) {α : Type} {enc : α → Array Value} {n : Nat} {xs : List α} [q : Hd w0 L s enc n xs] (hk : xs.length ≤ 140737488355328 → Cw P N w0 Q c env L) : Cw P N w0 Q c env L :=
  fun a w ha hw => hk (q.h w hw).bd a w ha hw
theorem sq_bd {P : Program} {N : Fra} {w0 : World} {env : Env} {L : List Ent} {l : List Oper} {Q : Exit → Act → World → Prop} {rest : List Oper} (s : Sv) {α : Type} {enc : α → Array Value} {n : Nat} {xs : List α} [q : Hd w0 L s enc n xs] (hk : xs.length ≤ 140737488355328 → Sq P N w0 l Q rest env L) : Sq P N w0 l Q rest env L :=
  fun a w ha hw => hk (q.h w hw).bd a w ha hw
theorem get_getD {α : Type} {xs : List α} {i : Nat} {d : α} (h : i < xs.length) : xs[i]? = some (xs.getD i d) := by
  simp [List.getD, h]
section
variable {P : Program} {N : Fra} {w0 : World} {env : Env} {L : List Ent} {l : List Oper} {Q : Exit → Act → World → Prop} {rest : List Oper} {d : Option Tmp} {ty : TypeId} {ps : String} {af : Array Edge} {gd : Option (Nat × Bool)}
variable {α : Type} {enc : α → Array Value} {c : Nat} {s : Sv} {xs : List α}
theorem ry_streqL {x y : Operand} {t u : TypeId} {a b : List UInt8} (hx : ev env x = some (.string ⟨a.toArray⟩)) (hy : ev env y = some (.string ⟨b.toArray⟩)) :
    Ry P N w0 env L ⟨d, .binOp .eql t x y u, ty, ps, af, gd⟩ (.bool (decide (a = b))) := by
  have e : ((⟨a.toArray⟩ : ByteArray).toList == (⟨b.toArray⟩ : ByteArray).toList) = decide (a = b) := by
    rw [ByteArray.toList_mk, ByteArray.toList_mk, Bool.eq_iff_iff]; simp
  rw [← e]; exact ry_streql hx hy
theorem ry_strneL {x y : Operand} {t u : TypeId} {a b : List UInt8} (hx : ev env x = some (.string ⟨a.toArray⟩)) (hy : ev env y = some (.string ⟨b.toArray⟩)) :
    Ry P N w0 env L ⟨d, .binOp .neq t x y u, ty, ps, af, gd⟩ (.bool (!decide (a = b))) := by
  have e : ((⟨a.toArray⟩ : ByteArray).toList == (⟨b.toArray⟩ : ByteArray).toList) = decide (a = b) := by
    rw [ByteArray.toList_mk, ByteArray.toList_mk, Bool.eq_iff_iff]; simp
  rw [← e]; exact ry_strneq hx hy
theorem ry_nilS {t e : TypeId} {x : Operand} {u : TypeId} (ht : P.underlying t = some (.slice e)) (hx : ev env x = some s.val) :
    Ry P N w0 env L ⟨d, .binOp .eql t x (.const (.slice none 0 0)) u, ty, ps, af, gd⟩ (.bool s.nil) := fun a w ha _ => by
  have h1 : (eqGuard BinOp.eql t x (.const (.slice none 0 0)) s.val (.slice none 0 0)).run P w = .ok () w := by
    unfold Sv.val; split <;> rfl
  have h3 : (Op.equal t s.val (.slice none 0 0)).run P w = .ok s.nil w := by
    unfold Sv.val
    split <;> rename_i hn <;> rw [run_equal_slice_nil w t e _ _ _ ht, hn] <;> rfl
  have h2 : (binOp .eql t s.val (.slice none 0 0)).run P w = .ok (.bool s.nil) w := by
    have : binOp .eql t s.val (.slice none 0 0) = (do pure (.bool (← Op.equal t s.val (.slice none 0 0)))) := by unfold Sv.val; split <;> rfl
    rw [this, Sem.run_bind, h3]; rfl
  simp only [execOp, ha.ev hx, show a.eval (.const (.slice none 0 0)) = .slice none 0 0 from rfl, Sem.run_bind, h1, Result.andThen_ok, h2, Sem.run_pure]
theorem ry_someS {t e : TypeId} {x : Operand} {u : TypeId} (ht : P.underlying t = some (.slice e)) (hx : ev env x = some s.val) :
    Ry P N w0 env L ⟨d, .binOp .neq t x (.const (.slice none 0 0)) u, ty, ps, af, gd⟩ (.bool (!s.nil)) := fun a w ha _ => by
  have h1 : (eqGuard BinOp.neq t x (.const (.slice none 0 0)) s.val (.slice none 0 0)).run P w = .ok () w := by
    unfold Sv.val; split <;> rfl
  have h3 : (Op.equal t s.val (.slice none 0 0)).run P w = .ok s.nil w := by
    unfold Sv.val
    split <;> rename_i hn <;> rw [run_equal_slice_nil w t e _ _ _ ht, hn] <;> rfl
  have h2 : (binOp .neq t s.val (.slice none 0 0)).run P w = .ok (.bool (!s.nil)) w := by
    have : binOp .neq t s.val (.slice none 0 0) = (do pure (.bool (!(← Op.equal t s.val (.slice none 0 0))))) := by unfold Sv.val; split <;> rfl
    rw [this, Sem.run_bind, h3]; rfl
  simp only [execOp, ha.ev hx, show a.eval (.const (.slice none 0 0)) = .slice none 0 0 from rfl, Sem.run_bind, h1, Result.andThen_ok, h2, Sem.run_pure]
theorem run_build0 {t e : TypeId} {by' : Nat} (ht : SlT P t e c by') (w : World) : (Instr.buildSlice t 0 #[]).run P w = .ok (.slice (some ⟨w.heap.size, 0, none⟩) 0 0) (w.alloc (.cells #[] e)) := by
  obtain ⟨i', z, hi1, hi2, hi3, hi4, hzc⟩ := ht.info
  have : (Array.range 0 : Array Nat) = #[] := by simp
  simp [Instr.buildSlice, run_underlying ht.und, sizeOf, typeInfo, hi1, Instr.fill, newRow, newObj, Sem.run, Result.andThen, this]
theorem sq_build0 {t e : TypeId} {by' : Nat} (enc : α → Array Value) [ht : SlT P t e c by'] [he : Enc enc c] (hk : ∀ b, Sq P N w0 l Q rest (putE env d (Sv.val ⟨false, b, 0, 0, 0, none⟩)) (own enc c ⟨false, b, 0, 0, 0, none⟩ [] :: L)) (hd : dstOk N d = true := by rfl) :
    Sq P N w0 l Q (⟨d, .buildSlice t 0 #[], ty, ps, af, none⟩ :: rest) env L :=
  sq_run rfl hd fun a w _ hw => by
    refine ⟨_, _, _, ?_, hw.call (mem_new (enc := enc) (c := c) (xs := []) (cs := #[]) (e := e) rfl 0 0 rfl (Nat.le_refl _) (Nat.zero_le _) (by simp) (by simp)), hk _⟩
    simp only [execOp, Sem.run_bind, List.map_toArray, List.map_nil, run_build0 ht w, Result.andThen, Sem.run_pure]; rfl
end
instance : Deep UInt8 := Deep.flat benc 1
instance : FlatT UInt8 benc 1 := ⟨rfl, fun _ => rfl⟩
def scells {τ : Type} (a : Sl τ) : Array Value := #[a.sv.val]
instance {τ : Type} : Enc (scells (τ := τ)) 1 := ⟨fun _ => rfl, fun a => Enc.one (enc := senc) (c := 1) a.sv⟩
instance {τ : Type} [Deep τ] : FlatT (Sl τ) scells 1 := ⟨rfl, fun _ => rfl⟩
instance {τ : Type} (a : Sl τ) : CellAt (scells a) 0 a.sv.val := ⟨rfl⟩
def lx {τ : Type} (a : Sl (Sl τ)) : List (List τ) := a.xs.map (·.xs)
theorem lx_length {τ : Type} (a : Sl (Sl τ)) : (lx a).length = a.xs.length := by simp [lx]

/-! Memory told in another way. -/
section
variable {L L' L1 L2 R R1 R2 : List Ent} {τ : Type}
def Tr (L L' : List Ent) : Prop := ∀ (K : List Ent) (w0 w : World), Mem w0 (L ++ K) w → Mem w0 (L' ++ K) w
theorem Tr.mem (h : Tr L L') {w0 w : World} (hw : Mem w0 L w) : Mem w0 L' w := by
  have := h [] w0 w (by simpa using hw); simpa using this
theorem Tr.refl : Tr L L := fun _ _ _ h => h
theorem Tr.trans (h : Tr L L1) (h' : Tr L1 L2) : Tr L L2 := fun K w0 w hw => h' K w0 w (h K w0 w hw)
theorem Tr.perm (h : L.Perm L') : Tr L L' := fun K _ _ hw => Mem.perm hw (h.append_right K)
theorem Tr.left (h : Tr L L') (X : List Ent) : Tr (X ++ L) (X ++ L') := fun K w0 w hw => by
  have p : ∀ Y : List Ent, (X ++ Y ++ K).Perm (Y ++ (X ++ K)) := fun Y => by
    rw [List.append_assoc, ← List.append_assoc Y]
    refine (List.perm_append_comm_assoc X Y K).trans ?_
    rw [List.append_assoc]
  exact (h (X ++ K) w0 w (hw.perm (p L))).perm (p L').symm
theorem Tr.right (h : Tr L L') (X : List Ent) : Tr (L ++ X) (L' ++ X) := fun K w0 w hw => by
  rw [List.append_assoc] at hw ⊢; exact h (X ++ K) w0 w hw
theorem Tr.cons (h : Tr L L') (x : Ent) : Tr (x :: L) (x :: L') := h.left [x]
theorem Tr.sub (h : L'.Sublist L) : Tr L L' := fun K _ _ hw => Mem.sub hw (h.append (.refl K))
theorem Tr.front {e : Ent} {i : Nat} (hi : L[i]? = some e) : Tr L (e :: L.eraseIdx i) := .perm (perm_erase hi)
theorem Tr.back {e : Ent} {i : Nat} (hi : L[i]? = some e) : Tr (e :: L.eraseIdx i) L := .perm (perm_erase hi).symm
theorem Tr.emp : Tr (.emp :: L) L := fun _ _ _ hw => Mem.emp_iff.1 hw
theorem Tr.emp' : Tr L (.emp :: L) := fun _ _ _ hw => Mem.emp_iff.2 hw
theorem Tr.two {a b : Ent} : Tr (.two a b :: L) (a :: b :: L) := fun _ _ _ hw => Mem.two_iff.1 hw
theorem Tr.two' {a b : Ent} : Tr (a :: b :: L) (.two a b :: L) := fun _ _ _ hw => Mem.two_iff.2 hw
theorem Tr.open_sl [d : Deep τ] {a : Sl τ} : Tr (Deep.ent a :: L) (own (Deep.cells (τ := τ)) (Deep.c τ) a.sv a.xs :: a.xs.map d.ent ++ L) := fun K w0 w hw => by
  have := Mem.open_sl.1 hw
  simpa using this
theorem Tr.shut_sl [d : Deep τ] {a : Sl τ} : Tr (own (Deep.cells (τ := τ)) (Deep.c τ) a.sv a.xs :: a.xs.map d.ent ++ L) (Deep.ent a :: L) := fun K w0 w hw => by
  refine Mem.open_sl.2 ?_
  simpa using hw
class Plain (τ : Type) [Deep τ] : Prop where
  h : ∀ x : τ, Deep.ent x = .emp
theorem Tr.plain [Deep τ] [p : Plain τ] : ∀ {xs : List τ}, Tr (xs.map Deep.ent ++ L) L
  | [] => .refl
  | x :: xs => by
    rw [List.map_cons, p.h]
    exact Tr.emp.trans Tr.plain
theorem Tr.plain' [Deep τ] [p : Plain τ] : ∀ {xs : List τ}, Tr L (xs.map Deep.ent ++ L)
  | [] => .refl
  | x :: xs => by
    rw [List.map_cons, p.h]
    exact (Tr.plain' (xs := xs)).trans Tr.emp'
theorem own_flat [Deep τ] {enc : τ → Array Value} {c : Nat} [f : FlatT τ enc c] (s : Sv) (xs : List τ) : own (Deep.cells (τ := τ)) (Deep.c τ) s xs = own enc c s xs := by
  have e : Deep.cells (τ := τ) = enc := funext f.h
  rw [e, f.hc]
theorem Tr.open_d [d : Deep τ] {enc : τ → Array Value} {c : Nat} [f : FlatT τ enc c] {a : Sl τ} : Tr (Deep.ent a :: L) (own enc c a.sv a.xs :: (a.xs.map d.ent ++ L)) := by
  rw [← own_flat]; exact Tr.open_sl
theorem Tr.shut_d [d : Deep τ] {enc : τ → Array Value} {c : Nat} [f : FlatT τ enc c] {a : Sl τ} : Tr (own enc c a.sv a.xs :: (a.xs.map d.ent ++ L)) (Deep.ent a :: L) := by
  rw [← own_flat]; exact Tr.shut_sl
theorem Tr.open_p [d : Deep τ] {enc : τ → Array Value} {c : Nat} [f : FlatT τ enc c] [Plain τ] {a : Sl τ} : Tr (Deep.ent a :: L) (own enc c a.sv a.xs :: L) := Tr.open_d.trans (Tr.plain.cons _)
theorem Tr.shut_p [d : Deep τ] {enc : τ → Array Value} {c : Nat} [f : FlatT τ enc c] [Plain τ] {a : Sl τ} : Tr (own enc c a.sv a.xs :: L) (Deep.ent a :: L) := (Tr.plain'.cons _).trans Tr.shut_d
theorem map_erase {α β : Type} (f : α → β) {xs : List α} {i : Nat} {x : α} (hx : xs[i]? = some x) : (xs.map f).Perm (f x :: (xs.eraseIdx i).map f) := by
  have h1 := (perm_erase' hx).map f
  exact h1
where perm_erase' {α : Type} : ∀ {L : List α} {i : Nat} {e : α}, L[i]? = some e → L.Perm (e :: L.eraseIdx i)
  | [], i, e, h => by simp at h
  | x :: L, 0, e, h => by obtain rfl : x = e := by simpa using h
                          simp
  | x :: L, i + 1, e, h => by
    have := perm_erase' (L := L) (i := i) (e := e) (by simpa using h)
    rw [List.eraseIdx_cons_succ]
    exact (this.cons x).trans (.swap _ _ _)
theorem Tr.pick [d : Deep τ] {enc : τ → Array Value} {c : Nat} [f : FlatT τ enc c] {a : Sl τ} {i : Nat} {x : τ} (hx : a.xs[i]? = some x) :
    Tr (Deep.ent a :: L) (own enc c a.sv a.xs :: Deep.ent x :: ((a.xs.eraseIdx i).map d.ent ++ L)) :=
  Tr.open_d.trans (Tr.cons (Tr.right (Tr.perm (map_erase d.ent hx)) L) _)
theorem erase_set {α : Type} : ∀ (xs : List α) (i : Nat) (y : α), (xs.set i y).eraseIdx i = xs.eraseIdx i
  | [], _, _ => by simp
  | _ :: _, 0, _ => by simp
  | _ :: xs, i + 1, y => by simp [erase_set xs i y]
theorem Tr.lay [d : Deep τ] {enc : τ → Array Value} {c : Nat} [f : FlatT τ enc c] {s : Sv} {xs : List τ} {i : Nat} {y : τ} (hi : i < xs.length) :
    Tr (own enc c s (xs.set i y) :: Deep.ent y :: ((xs.eraseIdx i).map d.ent ++ L)) (Deep.ent (⟨s, xs.set i y⟩ : Sl τ) :: L) := by
  have hy : (xs.set i y)[i]? = some y := by simp [hi]
  have := (map_erase d.ent hy).symm
  rw [erase_set] at this
  exact (Tr.cons (Tr.right (Tr.perm this) L) _).trans (Tr.shut_d (a := ⟨s, xs.set i y⟩))

class Take (L : List Ent) {τ : Type} [Deep τ] (x : τ) (R : outParam (List Ent)) : Prop where
  h : Tr L (Deep.ent x :: R)
class TakeL (L : List Ent) {τ : Type} [Deep τ] (xs : List τ) (R : outParam (List Ent)) : Prop where
  h : Tr L (xs.map Deep.ent ++ R)
instance (priority := high) Take.at [Deep τ] {x : τ} {i : Nat} [a : At L (Deep.ent x) i] [d : DelI L i R] : Take L x R := ⟨by
  have := Tr.front a.h; rwa [d.h] at this⟩
instance (priority := low) Take.plain [Deep τ] [p : Plain τ] {x : τ} : Take L x L := ⟨by rw [p.h]; exact Tr.emp'⟩
instance Take.own [Deep τ] [p : Plain τ] {enc : τ → Array Value} {c : Nat} [f : FlatT τ enc c] {s : Sv} {xs : List τ} {i : Nat} [a : At L (own enc c s xs) i] [d : DelI L i R] : Take L (⟨s, xs⟩ : Sl τ) R := ⟨by
  have := Tr.front a.h; rw [d.h] at this
  exact this.trans (Tr.shut_p (a := ⟨s, xs⟩))⟩
instance TakeL.nil [Deep τ] : TakeL L ([] : List τ) L := ⟨.refl⟩
instance TakeL.cons [Deep τ] {x : τ} {xs : List τ} [a : Take L x R1] [b : TakeL R1 xs R2] : TakeL L (x :: xs) R2 := ⟨a.h.trans (b.h.cons _)⟩
instance : Plain UInt8 := ⟨fun _ => rfl⟩
end

/-! Slices of values that reach memory. -/
section
variable {P : Program} {N : Fra} {w0 : World} {env : Env} {L R R1 R2 : List Ent} {l : List Oper} {Q : Exit → Act → World → Prop} {rest : List Oper} {d : Option Tmp} {ty : TypeId} {ps : String} {af : Array Edge}
variable {τ : Type} [dp : Deep τ] {enc : τ → Array Value} {c : Nat}
theorem sq_appendG {α : Type} {enc : α → Array Value} {c : Nat} {s : Sv} {xs ys : List α} {t tx e : TypeId} {x y : Operand} {yv : Value} {by' : Nat} [ht : SlT P t e c by'] [he : Enc enc c] (R : List Ent) (hx : ev env x = some s.val) (hy : ev env y = some yv)
    (ho : ∀ w, Mem w0 L w → Mem w0 (own enc c s xs :: R) w) (hc : 0 < c) (hs : ∀ w, Mem w0 L w → Src P c tx yv ys.length (flatR enc ys) w) (hb : (xs.length + ys.length) * by' ≤ 140737488355328) (h63 : xs.length + ys.length ≤ 140737488355328)
    (hk : ∀ s' : Sv, Sq P N w0 l Q rest (putE env d s'.val) (own enc c s' (xs ++ ys) :: R)) (hd : dstOk N d = true := by rfl) :
    Sq P N w0 l Q (⟨d, .call { callee := .builtin .append, args := #[x, y], argTypes := #[t, tx] }, ty, ps, af, none⟩ :: rest) env L :=
  sq_run rfl hd fun a w ha hw => by
    obtain ⟨s', w', h1, h2, h3, h4⟩ := append_own (i := 0) (ty := ty) ht hc (ho w hw) rfl (hs w hw) hb h63
    refine ⟨s'.val, w', _, ?_, by simpa using h4, hk s'⟩
    simp [execOp, ha.ev hx, ha.ev hy, resolve, invoke, builtin, h1, Result.andThen]
theorem sq_appendD {s : Sv} {t tx e e' : TypeId} {x y : Operand} {by' m : Nat} [f : FlatT τ enc c] [ht : SlT P t e c by'] [ht' : SliceT P tx e' m] [he : Enc enc c] (a : Sl τ) (ys : List τ) (hx : ev env x = some a.sv.val) (hy : ev env y = some s.val) [q : Hd w0 L s enc c ys]
    [k1 : Take L a R1] [k2 : TakeL R1 ys R2] (hc : 0 < c) (hb : (a.xs.length + ys.length) * by' ≤ 140737488355328) (h63 : a.xs.length + ys.length ≤ 140737488355328)
    (hk : ∀ a' : Sl τ, a'.xs = a.xs ++ ys → Sq P N w0 l Q rest (putE env d a'.sv.val) (Deep.ent a' :: R2)) (hd : dstOk N d = true := by rfl) :
    Sq P N w0 l Q (⟨d, .call { callee := .builtin .append, args := #[x, y], argTypes := #[t, tx] }, ty, ps, af, none⟩ :: rest) env L :=
  sq_appendG (enc := enc) (c := c) (xs := a.xs) (ys := ys) (a.xs.map dp.ent ++ (ys.map dp.ent ++ R2)) hx hy (fun w hw => ((k1.h.trans (k2.h.cons _)).trans Tr.open_d).mem hw) hc (fun w hw => src_rows ht'.und hc (q.h w hw)) hb h63
    (fun s' aa w ha hw => hk ⟨s', a.xs ++ ys⟩ rfl aa w ha (by
      have t1 : Tr (own enc c s' (a.xs ++ ys) :: (a.xs.map dp.ent ++ (ys.map dp.ent ++ R2))) (Deep.ent (⟨s', a.xs ++ ys⟩ : Sl τ) :: R2) := by
        have := Tr.shut_d (enc := enc) (c := c) (a := (⟨s', a.xs ++ ys⟩ : Sl τ)) (L := R2)
        simpa using this
      exact t1.mem hw)) hd
theorem Mem.nilEnt {w : World} [f : FlatT τ enc c] (h : Mem w0 L w) : Mem w0 (Deep.ent (⟨Sv.none, []⟩ : Sl τ) :: L) w :=
  (Tr.shut_d (enc := enc) (c := c) (a := (⟨Sv.none, []⟩ : Sl τ)) (L := L)).mem (by simpa using h.nilOwn enc c)
theorem sq_ownD0 (τ : Type) [Deep τ] {enc : τ → Array Value} {c : Nat} [f : FlatT τ enc c] (h : Sq P N w0 l Q rest env (Deep.ent (⟨Sv.none, []⟩ : Sl τ) :: L)) : Sq P N w0 l Q rest env L := fun a w ha hw => h a w ha (Mem.nilEnt (enc := enc) (c := c) hw)
def elAt {τ : Type} (s : Sl (Sl τ)) (i : Nat) : Sl τ := s.xs.getD i ⟨Sv.none, []⟩
theorem elAt_get {τ : Type} {s : Sl (Sl τ)} {i : Nat} {x : Sl τ} (h : s.xs[i]? = some x) : elAt s i = x := by simp [elAt, h]
theorem elAt_none {τ : Type} {s : Sl (Sl τ)} {i : Nat} (h : s.xs.length ≤ i) : elAt s i = ⟨Sv.none, []⟩ := by simp [elAt, h]
theorem elAt_xs {τ : Type} (s : Sl (Sl τ)) (i : Nat) : (elAt s i).xs = (lx s).getD i [] := by
  rcases Nat.lt_or_ge i s.xs.length with h | h
  · have : s.xs[i]? = some s.xs[i] := by simp [h]
    simp [elAt_get this, lx, h]
  · rw [elAt_none h]; simp [lx, h]
theorem good_none {h : Nat → Option Obj} : Deep.good h (⟨Sv.none, []⟩ : Sl τ) := ⟨Lies.nil _ _ _, fun _ hx => by cases hx⟩
def Sl.nil {τ : Type} : Sl τ := ⟨Sv.none, []⟩
instance HdD.none : HdD w0 L (Sl.nil : Sl τ) := ⟨fun _ _ => good_none⟩
instance HdD.elAt {s : Sl (Sl τ)} {i : Nat} [q : HdD w0 L s] : HdD w0 L (elAt s i) := ⟨fun w hw => by
  rcases Nat.lt_or_ge i s.xs.length with h | h
  · have hx : s.xs[i]? = some s.xs[i] := by simp [h]
    rw [elAt_get hx]; exact (q.h w hw).2 _ (List.mem_of_getElem? hx)
  · rw [elAt_none h]; exact good_none⟩
theorem Tr.nils {L : List Ent} [f : FlatT τ enc c] : ∀ n, Tr L ((List.replicate n (⟨Sv.none, []⟩ : Sl τ)).map Deep.ent ++ L)
  | 0 => .refl
  | n + 1 => by
    rw [List.replicate_succ, List.map_cons]
    exact (Tr.nils n).trans fun K w0 w hw => Mem.nilEnt (enc := enc) (c := c) hw
theorem sq_makeD {t e : TypeId} {by' n cap : Nat} {x y : Operand} {k k' : IntKind} {ix iy : Int} [f : FlatT τ enc c] [ht : SlT P t e 1 by'] [hz : ZeroT P e (.slice none 0 0)] (hx : ev env x = some (.int k ix)) (hy : ev env y = some (.int k' iy)) (ex : ix = (n : Int)) (ey : iy = (cap : Int)) (hle : n ≤ cap) (hb : by' * cap ≤ 281474976710656) (h63 : cap ≤ 140737488355328)
    (hk : ∀ a : Sl (Sl τ), a.xs = List.replicate n ⟨Sv.none, []⟩ → Sq P N w0 l Q rest (putE env d a.sv.val) (Deep.ent a :: L)) (hd : dstOk N d = true := by rfl) :
    Sq P N w0 l Q (⟨d, .makeSlice t x y, ty, ps, af, none⟩ :: rest) env L :=
  sq_makeS (enc := scells (τ := τ)) (n := n) (cap := cap) (⟨Sv.none, []⟩ : Sl τ) rfl hx hy ex ey hle hb h63 (fun b a w ha hw => hk ⟨⟨false, b, 0, n, cap, none⟩, List.replicate n ⟨Sv.none, []⟩⟩ rfl a w ha
    (((Tr.nils (enc := enc) (c := c) n).cons _ |>.trans (Tr.shut_d (enc := scells) (c := 1) (a := (⟨⟨false, b, 0, n, cap, none⟩, List.replicate n ⟨Sv.none, []⟩⟩ : Sl (Sl τ))))).mem hw)) hd
end

section
variable {P : Program} {N : Fra} {w0 : World} {env : Env} {L : List Ent} {l : List Oper} {Q : Exit → Act → World → Prop} {rest : List Oper} {d : Option Tmp} {ty : TypeId} {ps : String} {af : Array Edge}
theorem sq_copyS {α : Type} {enc : α → Array Value} {x y : Operand} {tx tys e : TypeId} {i b o dl dc : Nat} {sv : Sv} {ys : List α} {cs : Array Value} {T : TypeId} (hx : ev env x = some (.slice (some ⟨b, o, none⟩) dl dc)) (hy : ev env y = some sv.val)
    [ht : SliceT P tx e 1] [hh : Has L b cs T i] [q : Hd w0 L sv enc 1 ys] [he : Enc enc 1] (h0 : 0 < ys.length) (hl : ys.length ≤ dl) (ho : o + ys.length ≤ cs.size)
    {cs' : Array Value} {L' : List Ent} (hcs : over cs o (flatR enc ys).toArray = cs') [hu : Upd L i (blk b cs' T) L'] (hk : Sq P N w0 l Q rest (putE env d (.int .i64 (ys.length : Nat))) L') (hd : dstOk N d = true := by rfl) :
    Sq P N w0 l Q (⟨d, .call { callee := .builtin .copy, args := #[x, y], argTypes := #[tx, tys] }, ty, ps, af, none⟩ :: rest) env L := fun a w ha hw => by
  have r := q.h w hw
  have hn := r.some (i := 0) h0
  have hlen := r.len
  rw [Sv.val_some hn, r.ok.sp (by have := r.ok.le; omega)] at hy
  have hs : (flatR enc ys).toArray.size = ys.length := by rw [List.size_toArray, flatR_length, Nat.mul_one]
  have hk' := hk
  rw [← hs] at hk'
  refine sq_copy (vs := (flatR enc ys).toArray) hx hy ?_ (fun w hw j hj => ?_) ?_ (by rw [hs]; exact ho) hcs hk' hd a w ha hw
  · rw [hs]; simp only [Nat.min_def]; split <;> omega
  · rw [hs] at hj
    have := flatR_get (enc := enc) ys j ys[j] (by simp [hj]) 0 (by decide)
    have r2 := (q.h w hw).row j ys[j] (by simp [hj]) 0 (by decide)
    simp only [Nat.mul_one, Nat.add_zero] at this r2
    rw [Addr.add_none, cell_hp, r2, ← this]; simp
  · rw [Array.all_eq_true_iff_forall_mem]; intro v hv; exact flatR_one (enc := enc) ys v (by simpa using hv)
end

theorem Sv.cells_val (s : Sv) : s.val.cells = #[s.val] := by unfold Sv.val; split <;> rfl
theorem Tr.pick1 {τ : Type} [Deep τ] [Plain τ] {enc : τ → Array Value} {c : Nat} [FlatT τ enc c] {a : Sl (Sl τ)} {x : Sl τ} {i : Nat} {B : List Ent} (hx : a.xs[i]? = some x) :
    Tr (B ++ [Deep.ent a]) (own scells 1 a.sv a.xs :: own enc c x.sv x.xs :: (B ++ (a.xs.eraseIdx i).map Deep.ent)) := by
  refine (Tr.perm (List.perm_append_comm (l₁ := B) (l₂ := [Deep.ent a]))).trans ?_
  refine (Tr.pick (L := B) hx).trans (Tr.cons (Tr.open_p.trans (Tr.cons (Tr.perm List.perm_append_comm) _)) _)
theorem Tr.lay1 {τ : Type} [Deep τ] [Plain τ] {enc : τ → Array Value} {c : Nat} [FlatT τ enc c] {s y : Sv} {xs : List (Sl τ)} {ys : List τ} {i : Nat} {B : List Ent} (hi : i < xs.length) :
    Tr (own scells 1 s (xs.set i ⟨y, ys⟩) :: own enc c y ys :: (B ++ (xs.eraseIdx i).map Deep.ent)) (Deep.ent (⟨s, xs.set i ⟨y, ys⟩⟩ : Sl (Sl τ)) :: B) := by
  refine Tr.trans ?_ (Tr.lay (L := B) hi)
  exact Tr.cons ((Tr.shut_p (a := (⟨y, ys⟩ : Sl τ))).trans (Tr.cons (Tr.perm List.perm_append_comm) _)) _

theorem sq_storeSv {P : Program} {N : Fra} {w0 : World} {env : Env} {L : List Ent} {l : List Oper} {Q : Exit → Act → World → Prop} {rest : List Oper} {ty : TypeId} {ps : String} {af : Array Edge} {τ : Type} {t : TypeId} {x y : Operand} {i k p : Nat} {s : Sv} {xs : List (Sl τ)} {a : Sl τ} (a' : Sl τ)
    (sz : (P.info? t).map (·.size) = some 1) (hx : ev env x = some (.pointer (some ⟨s.b, p, none⟩))) (hy : ev env y = some a'.sv.val) [q : Owns L s (scells (τ := τ)) 1 xs i] (hp' : p = s.o + k * 1) (ha : xs[k]? = some a) {L' : List Ent} [hu : Upd L i (own scells 1 s (xs.set k a')) L'] (hk : Sq P N w0 l Q rest env L') :
    Sq P N w0 l Q (⟨none, .store t x y, ty, ps, af, none⟩ :: rest) env L :=
  sq_storeS (j := 0) (a' := a') sz hx hy (q := q) hp' ha (by rw [Sv.cells_val]; simp [Sv.one]) (by rw [Sv.cells_val]; rfl) (by decide) (by rw [Sv.cells_val]; rfl) hk

/-! Guards that are known. -/
section
variable {P : Program} {N : Fra} {w0 : World} {env : Env} {L : List Ent} {l : List Oper} {Q : Exit → Act → World → Prop} {rest : List Oper} {d : Option Tmp} {ty : TypeId} {ps : String} {af : Array Edge} {gd : Option (Nat × Bool)}
variable {fs : List Nat} {F : Act → Prop} {k : Nat}
theorem sq_ty {o : Oper} {v : Value} {j t : Nat} {b g : Bool} (hg : o.guard = some (j, b)) (hj : (l[j]?).bind (·.dst) = some t) (hv : look env t = some (.bool g)) (ht : g = b) (h : Yl P N w0 env L o v)
    (hk : Sq P N w0 l Q rest (putE env o.dst v) L) (hd : dstOk N o.dst = true := by rfl) : Sq P N w0 l Q (o :: rest) env L := fun a w ha hw => by
  unfold wpList
  rw [wanted_some ha hg hj hv, ht, beq_self_eq_true, if_pos rfl]
  exact .inl (wp_of_yl ha hw h fun w' hw' => hk _ _ (ha.put hd v) hw')
theorem qt_ty {o : Oper} {v : Value} {j t : Nat} {b g : Bool} (hg : o.guard = some (j, b)) (hj : (l[j]?).bind (·.dst) = some t) (hv : look env t = some (.bool g)) (ht : g = b) (h : Yl P N w0 env L o v)
    (hk : Qt P N w0 l fs F (k + 1) rest (putE env o.dst v) L) (hd : dstOk N o.dst = true := by rfl) (hf : fs.contains k = false := by rfl) : Qt P N w0 l fs F k (o :: rest) env L := fun a ha => by
  unfold wpHead
  rw [if_neg (by rw [hf]; exact Bool.false_ne_true), wanted_some ha hg hj hv, ht, beq_self_eq_true, if_pos rfl]
  exact ⟨v, h a ha, hk _ (ha.put hd v)⟩
theorem sq_tcallC {X : Type} {val : X → Value} {L' : X → List Ent} {pr : X → Prop} {pre : Prop} {f : FuncId} {xs : List Operand} {ts : Array TypeId} {vs : List Value} {j t : Nat} {b g : Bool} (hj : (l[j]?).bind (·.dst) = some t) (hv : look env t = some (.bool g)) (ht : g = b) [hf : IsFn P f] (hx : evl env xs = some vs)
    [hc : FnC P f w0 L vs X val L' pr pre] (hp : pre) (hk : ∀ x, pr x → Sq P N w0 l Q rest (putE env d (val x)) (L' x)) (hd : dstOk N d = true := by rfl) :
    Sq P N w0 l Q (⟨d, .call { callee := .value (.func f), args := xs.toArray, argTypes := ts }, ty, ps, af, some (j, b)⟩ :: rest) env L := fun a w ha hw => by
  unfold wpList
  rw [wanted_some ha rfl hj hv, ht, beq_self_eq_true, if_pos rfl]
  refine .inl ?_
  unfold Oper.wp
  rw [run_call hf w rfl, ha.evl hx]
  exact (hc.h hp w hw).mono fun e w' ⟨x, he, hpx, hm⟩ => by subst he; exact hk x hpx _ _ (ha.put hd _) hm
theorem sq_fy {o : Oper} {j t : Nat} {b g : Bool} (hg : o.guard = some (j, b)) (hj : (l[j]?).bind (·.dst) = some t) (hv : look env t = some (.bool g)) (ht : g = !b)
    (hk : Sq P N w0 l Q rest (putE env o.dst undef) L) (hd : dstOk N o.dst = true := by rfl) : Sq P N w0 l Q (o :: rest) env L := fun a w ha hw => by
  unfold wpList
  rw [wanted_some ha hg hj hv, ht, if_neg (by cases b <;> simp)]
  exact hk _ _ (ha.put hd undef) hw
end
theorem ry_pickT {P : Program} {N : Fra} {w0 : World} {env : Env} {L : List Ent} {d : Option Tmp} {ty : TypeId} {ps : String} {af : Array Edge} {gd : Option (Nat × Bool)} {c x y : Operand} {g : Bool} {v : Value} (hc : ev env c = some (.bool g)) (ht : g = true) (hx : ev env x = some v) (hy : ev env y = some (.bool false)) :
    Ry P N w0 env L ⟨d, .pick c x y, ty, ps, af, gd⟩ v := by
  subst ht
  have h := ry_pick (P := P) (N := N) (w0 := w0) (L := L) (d := d) (ty := ty) (ps := ps) (af := af) (gd := gd) hc hx hy
  simpa using h
theorem ry_pickF {P : Program} {N : Fra} {w0 : World} {env : Env} {L : List Ent} {d : Option Tmp} {ty : TypeId} {ps : String} {af : Array Edge} {gd : Option (Nat × Bool)} {c x y : Operand} {g : Bool} {v : Value} (hc : ev env c = some (.bool g)) (ht : g = false) (hx : ev env x = some (.bool true)) (hy : ev env y = some v) :
    Ry P N w0 env L ⟨d, .pick c x y, ty, ps, af, gd⟩ v := by
  subst ht
  have h := ry_pick (P := P) (N := N) (w0 := w0) (L := L) (d := d) (ty := ty) (ps := ps) (af := af) (gd := gd) hc hx hy
  simpa using h
end Go.Eng

/- Arguments opened: what is read of them as data lies in memory as a value of a Lean type. -/
namespace Go.Eng
open Go.ChangeShapes Go.WideShapes Go.ChangeAt Go.RowKit Go.Kb

variable {P : Program}

theorem list_of {α : Type} {p : Nat → α → Prop} : ∀ {n : Nat}, (∀ i, i < n → ∃ x, p i x) → ∃ l : List α, l.length = n ∧ ∀ i x, l[i]? = some x → p i x
  | 0, _ => ⟨[], rfl, fun i x h => by simp at h⟩
  | n + 1, h => by
    obtain ⟨l, hl, hp⟩ := list_of (n := n) fun i hi => h i (by omega)
    obtain ⟨x, hx⟩ := h n (by omega)
    refine ⟨l ++ [x], by simp [hl], fun i y hy => ?_⟩
    by_cases hi : i < n
    · rw [List.getElem?_append_left (by omega)] at hy; exact hp i y hy
    · have : i = n := by
        have := (List.getElem?_eq_some_iff.1 hy).1
        rw [List.length_append, hl] at this; simp at this; omega
      subst this
      rw [List.getElem?_append_right (by omega), hl] at hy
      have : x = y := by simpa using hy
      exact this ▸ hx

class OpenT (P : Program) (t : TypeId) (τ : Type) [Deep τ] : Prop where
  sz : P.cellsOf t = Deep.c τ
  h : ∀ {H : Type} {enc : TypeId × Value → H} {w : World} {fuel : Nat} {cs : List Value} {d : DataW H} {ps : List MemPlace}, DataW.trod enc P w 0 (fun _ => true) true fuel t cs = some (d, ps) → (∀ n ∈ d.weights P t, n ≤ reachBytes) →
    ∃ x : τ, (Deep.cells x).toList = cs ∧ Deep.good (hp w) x

theorem cells_get {w : World} {b : Nat} {a : Addr} {n : Nat} {cs : List Value} (h : w.cells? b a n = some cs) : cs.length = n ∧ ∀ j, j < n → w.cell? (a.add j) = cs[j]? := by
  unfold World.cells? at h
  split at h
  · have hl := mapM_some_length h
    refine ⟨by simpa using hl, fun j hj => ?_⟩
    exact mapM_some_get h j j (by simp [hj])
  · cases h

theorem mem_weightsAll {H : Type} {e : TypeId} {n : Nat} : ∀ {l : List (DataW H)} {d : DataW H}, d ∈ l → n ∈ d.weights P e → n ∈ DataW.weightsAll P e l
  | x :: l, d, hd, hn => by
    rw [DataW.weightsAll]
    rcases List.mem_cons.1 hd with rfl | hd
    · exact List.mem_append_left _ hn
    · exact List.mem_append_right _ (mem_weightsAll hd hn)
theorem mem_weightsEach {H : Type} {n : Nat} : ∀ {ts : List TypeId} {l : List (DataW H)} {i : Nat} {t : TypeId} {d : DataW H}, ts[i]? = some t → l[i]? = some d → n ∈ d.weights P t → n ∈ DataW.weightsEach P ts l
  | [], _, i, _, _, h, _, _ => by simp at h
  | _ :: _, [], i, _, _, _, h, _ => by simp at h
  | t0 :: ts, d0 :: l, 0, t, d, ht, hd, hn => by
    obtain rfl : t0 = t := by simpa using ht
    obtain rfl : d0 = d := by simpa using hd
    rw [DataW.weightsEach]; exact List.mem_append_left _ hn
  | t0 :: ts, d0 :: l, i + 1, t, d, ht, hd, hn => by
    rw [DataW.weightsEach]; exact List.mem_append_right _ (mem_weightsEach (i := i) (by simpa using ht) (by simpa using hd) hn)

theorem reach_le : reachBytes ≤ 140737488355328 := by decide

theorem open_sl {t e : TypeId} {τ : Type} [Deep τ] (hu : P.underlying t = some (.slice e)) (hb' : Nat.ble 1 (P.bytesOf e) = true) (hc : 1 ≤ Deep.c τ) (hs : P.cellsOf t = 1) [o : OpenT P e τ] : OpenT P t (Sl τ) := ⟨hs, fun {H enc w fuel cs d ps} h hw => by
  have hb : 1 ≤ P.bytesOf e := Nat.le_of_ble_eq_true hb'
  rcases Go.Deep.open_slice hu h with ⟨rfl, _⟩ | ⟨a, len, cap, m, n, D, Pl, rfl, _, hl, _, hm, hx, hel⟩
  · exact ⟨⟨Sv.none, []⟩, rfl, good_none⟩
  · simp only [if_true] at hm
    subst hm
    have hd : d = .slice ((List.range len).map D) ((List.range (m - len)).map fun j => D (len + j)) := congrArg Prod.fst hx
    subst hd
    simp only [DataW.weights, hu, List.length_map, List.length_range] at hw
    have hcap : m ≤ 140737488355328 := by
      have h1 := hw _ (List.mem_cons_self ..)
      have h2 : (len + (m - len)) * 1 ≤ (len + (m - len)) * P.bytesOf e := Nat.mul_le_mul_left _ hb
      have := reach_le; omega
    have hcells : ∀ i, i < m → ∃ cs', (cs'.length = Deep.c τ ∧ ∀ j, j < Deep.c τ → w.cell? ((a.add (i * Deep.c τ)).add j) = cs'[j]?) ∧ DataW.trod enc P w 0 (fun _ => true) true n e cs' = some (D i, Pl i) := fun i hi => by
      obtain ⟨cs', h1, h2⟩ := hel i hi
      rw [o.sz] at h1
      exact ⟨cs', cells_get h1, h2⟩
    have hspot : 0 < m → a.spot = none := fun hm => by
      obtain ⟨cs', ⟨h1, h2⟩, _⟩ := hcells 0 hm
      have h3 := h2 0 (by omega)
      have e0 : (a.add (0 * Deep.c τ)).add 0 = a := by simp [Addr.add]
      rw [e0, List.getElem?_eq_getElem (by omega)] at h3
      unfold World.cell? at h3
      split at h3
      · split at h3
        · cases h3
        · rename_i hs; simpa using hs
      · cases h3
    obtain ⟨l, hll, hlp⟩ := list_of (p := fun i (x : τ) => (∀ j, j < Deep.c τ → w.cell? ((a.add (i * Deep.c τ)).add j) = (Deep.cells x)[j]?) ∧ Deep.good (hp w) x) (n := len) fun i hi => by
      obtain ⟨cs', ⟨h1, h2⟩, h3⟩ := hcells i (by omega)
      obtain ⟨x, hx1, hx2⟩ := o.h h3 (fun k hk => hw k (List.mem_cons_of_mem _ (List.mem_append_left _ (mem_weightsAll (List.mem_map.2 ⟨i, List.mem_range.2 hi, rfl⟩) hk))))
      refine ⟨x, fun j hj => ?_, hx2⟩
      rw [h2 j hj, ← hx1]; simp
    refine ⟨⟨⟨false, a.block, a.off, len, m, a.spot⟩, l⟩, rfl, ⟨⟨(fun h => by cases h), hl, by simp only; omega, hspot⟩, by simp [hll], fun i x hi j hj => ?_⟩, fun x hx => ?_⟩
    · have hil : i < len := by rw [← hll]; exact (List.getElem?_eq_some_iff.1 hi).1
      have h1 := (hlp i x hi).1 j hj
      have hs := hspot (by omega)
      have ea : (a.add (i * Deep.c τ)).add j = ⟨a.block, a.off + i * Deep.c τ + j, none⟩ := by
        obtain ⟨ab, ao, asp⟩ := a
        simp only at hs
        subst hs
        rw [Addr.add_none, Addr.add_none]
      rw [ea, cell_hp] at h1
      exact h1
    · obtain ⟨i, hi⟩ := List.getElem?_of_mem hx
      exact (hlp i x hi).2⟩

theorem open_field {H : Type} {enc : TypeId × Value → H} {w : World} {fuel : Nat} {t : TypeId} {cs : List Value} {d : DataW H} {ps : List MemPlace} {fs : Array Field} (hu : P.underlying t = some (.struct fs)) (h : DataW.trod enc P w 0 (fun _ => true) true fuel t cs = some (d, ps)) (hw : ∀ n ∈ d.weights P t, n ≤ reachBytes)
    {i tf off : Nat} (hf0 : (fs[i]?).map (fun f => (f.type, f.offset)) = some (tf, off)) (τ : Type) [Deep τ] [o : OpenT P tf τ] : cs.length = P.cellsOf t ∧ ∃ x : τ, (Deep.cells x).toList = (cs.drop off).take (Deep.c τ) ∧ Deep.good (hp w) x := by
  obtain ⟨f, hf, e⟩ := Option.map_eq_some_iff.1 hf0
  obtain ⟨rfl, rfl⟩ := Prod.mk.inj e
  obtain ⟨xs, n, _, hx, hl, hlen, hg⟩ := DataW.trod_struct hu h
  have h1 := hg i f hf
  have hi : i < xs.length := by rw [hlen]; exact (Array.getElem?_eq_some_iff.1 hf).1
  rw [List.getElem?_eq_getElem hi, o.sz] at h1
  have hd : d = .agg (xs.map (·.1)) := congrArg Prod.fst hx
  subst hd
  obtain ⟨x, hx1, hx2⟩ := o.h (d := xs[i].1) (ps := xs[i].2) h1 (fun k hk => hw k (by
    simp only [DataW.weights, hu]
    exact mem_weightsEach (i := i) (t := f.type) (d := xs[i].1) (by
      have : fs.toList[i]? = some f := by simpa using hf
      rw [List.getElem?_map, this]; rfl) (by simp [hi]) hk))
  exact ⟨hl, x, hx1, hx2⟩
theorem open_elem {H : Type} {enc : TypeId × Value → H} {w : World} {fuel : Nat} {t e : TypeId} {m : Nat} {cs : List Value} {d : DataW H} {ps : List MemPlace} (hu : P.underlying t = some (.array m e)) (h : DataW.trod enc P w 0 (fun _ => true) true fuel t cs = some (d, ps)) (hw : ∀ n ∈ d.weights P t, n ≤ reachBytes)
    (τ : Type) [Deep τ] [o : OpenT P e τ] : cs.length = P.cellsOf t ∧ ∀ i, i < m → ∃ x : τ, (Deep.cells x).toList = (cs.drop (i * Deep.c τ)).take (Deep.c τ) ∧ Deep.good (hp w) x := by
  cases fuel with
  | zero => simp [DataW.trod] at h
  | succ n =>
    unfold DataW.trod at h
    rw [hu] at h
    split at h <;> simp_all
    rename_i m' e' heq
    obtain ⟨hl, xs, hp', hd⟩ := h
    obtain ⟨rfl, rfl⟩ := heq
    intro i hi
    have hlen := mapM_some_length hp'
    have hi' : i < xs.length := by simpa [hlen] using hi
    have h1 := mapM_some_get hp' i i (by simp [hi])
    rw [List.getElem?_eq_getElem hi', o.sz] at h1
    obtain ⟨rfl, -⟩ := hd
    exact o.h (d := xs[i].1) (ps := xs[i].2) h1 (fun k hk => hw k (by
      simp only [DataW.weights, hu]
      exact mem_weightsAll (List.mem_map_of_mem (List.getElem_mem hi')) hk))

theorem cut2 {α : Type} {cs : List α} {a b : Nat} (h : cs.length = a + b) : (cs.drop 0).take a ++ (cs.drop a).take b = cs := by
  rw [List.drop_zero, List.take_of_length_le (l := cs.drop a) (by rw [List.length_drop]; omega), List.take_append_drop]
theorem cut3 {α : Type} {cs : List α} {a b c : Nat} (h : cs.length = a + b + c) : (cs.drop 0).take a ++ (cs.drop a).take b ++ (cs.drop (a + b)).take c = cs := by
  have h1 := cut2 (cs := cs) (a := a + b) (b := c) (by omega)
  conv => rhs; rw [← h1]
  congr 1
  rw [List.drop_zero, List.take_add]
theorem cut4 {α : Type} {cs : List α} {a b c d : Nat} (h : cs.length = a + b + c + d) : (cs.drop 0).take a ++ (cs.drop a).take b ++ (cs.drop (a + b)).take c ++ (cs.drop (a + b + c)).take d = cs := by
  have h1 := cut2 (cs := cs) (a := a + b + c) (b := d) (by omega)
  conv => rhs; rw [← h1]
  congr 1
  rw [List.drop_zero, List.take_add, List.take_add]

/-! Numbers. -/
def ienc (n : Int) : Array Value := #[.int .i64 n]
instance : Enc ienc 1 := ⟨fun _ => rfl, fun _ => by simp [ienc, Value.oneCell']⟩
instance : Deep Int := Deep.flat ienc 1
instance : FlatT Int ienc 1 := ⟨rfl, fun _ => rfl⟩
instance : Plain Int := ⟨fun _ => rfl⟩
instance (n : Int) : CellAt (ienc n) 0 (.int .i64 n) := ⟨rfl⟩
def henc (n : UInt16) : Array Value := #[.int .u16 n.toNat]
instance : Enc henc 1 := ⟨fun _ => rfl, fun _ => by simp [henc, Value.oneCell']⟩
instance : Deep UInt16 := Deep.flat henc 1
instance : FlatT UInt16 henc 1 := ⟨rfl, fun _ => rfl⟩
instance : Plain UInt16 := ⟨fun _ => rfl⟩
instance (n : UInt16) : CellAt (henc n) 0 (.int .u16 n.toNat) := ⟨rfl⟩
def tenc (b : Bool) : Array Value := #[.bool b]
instance : Enc tenc 1 := ⟨fun _ => rfl, fun _ => by simp [tenc, Value.oneCell']⟩
instance : Deep Bool := Deep.flat tenc 1
instance : FlatT Bool tenc 1 := ⟨rfl, fun _ => rfl⟩
instance : Plain Bool := ⟨fun _ => rfl⟩
instance (b : Bool) : CellAt (tenc b) 0 (.bool b) := ⟨rfl⟩

theorem open_i64 {t : TypeId} (hu : P.underlying t = some (.int .i64)) (hs : P.cellsOf t = 1) : OpenT P t Int := ⟨hs, fun h _ => by
  obtain ⟨n, rfl, _, _⟩ := DataW.trod_int hu h
  exact ⟨n, rfl, trivial⟩⟩
theorem open_u8 {t : TypeId} (hu : P.underlying t = some (.int .u8)) (hs : P.cellsOf t = 1) : OpenT P t UInt8 := ⟨hs, fun h _ => by
  obtain ⟨n, rfl, _, hw⟩ := DataW.trod_int hu h
  simp only [Lit.wf, Bool.and_eq_true, decide_eq_true_eq] at hw
  have h1 : (0 : Int) ≤ n := hw.1
  have h2 : n ≤ (255 : Int) := hw.2
  refine ⟨UInt8.ofNat n.toNat, ?_, trivial⟩
  have : ((UInt8.ofNat n.toNat).toNat : Int) = n := by simp; omega
  show (benc (UInt8.ofNat n.toNat)).toList = _
  simp only [benc, this]⟩
theorem open_u16 {t : TypeId} (hu : P.underlying t = some (.int .u16)) (hs : P.cellsOf t = 1) : OpenT P t UInt16 := ⟨hs, fun h _ => by
  obtain ⟨n, rfl, _, hw⟩ := DataW.trod_int hu h
  simp only [Lit.wf, Bool.and_eq_true, decide_eq_true_eq] at hw
  have h1 : (0 : Int) ≤ n := hw.1
  have h2 : n ≤ (65535 : Int) := hw.2
  refine ⟨UInt16.ofNat n.toNat, ?_, trivial⟩
  have : ((UInt16.ofNat n.toNat).toNat : Int) = n := by simp; omega
  show (henc (UInt16.ofNat n.toNat)).toList = _
  simp only [henc, this]⟩
theorem open_bool {t : TypeId} (hu : P.underlying t = some .bool) (hs : P.cellsOf t = 1) : OpenT P t Bool := ⟨hs, fun h _ => by
  obtain ⟨n, rfl, _⟩ := DataW.trod_bool hu h
  exact ⟨n, rfl, trivial⟩⟩

/-! Arguments. -/
theorem arg_sl {H : Type} {enc : TypeId × Value → H} {w : World} {b : Nat} {t e : TypeId} {τ : Type} [Deep τ] [o : OpenT P t (Sl τ)] (hu : P.underlying t = some (.slice e)) {v : Value} {d : DataW H} {ps : List MemPlace} (hv : Value.okWide P w .any b t v) (h : DataW.Trod enc P w 0 (fun _ => true) true t v d ps) (hw : ∀ n ∈ d.weights P t, n ≤ reachBytes) :
    ∃ x : Sl τ, v = x.sv.val ∧ Deep.good (hp w) x := by
  obtain ⟨fuel, h⟩ := h
  obtain ⟨x, h1, h2⟩ := o.h h hw
  refine ⟨x, ?_, h2⟩
  have hc : v.cells = #[v] := by
    unfold Value.okWide at hv
    rw [hu] at hv
    unfold Cell.okWide at hv
    rw [hu] at hv
    cases v <;> simp_all [Cell.ok, Value.cells]
  rw [hc] at h1
  have : [x.sv.val] = [v] := h1
  simpa using this.symm
theorem arg_agg {H : Type} {enc : TypeId × Value → H} {w : World} {b : Nat} {t : TypeId} {τ : Type} [Deep τ] [o : OpenT P t τ] (hu : ∃ d, P.underlying t = some d ∧ isRowD d = true) {v : Value} {d : DataW H} {ps : List MemPlace} (hv : Value.okWide P w .any b t v) (h : DataW.Trod enc P w 0 (fun _ => true) true t v d ps) (hw : ∀ n ∈ d.weights P t, n ≤ reachBytes) :
    ∃ x : τ, v = .agg (Deep.cells x) ∧ Deep.good (hp w) x := by
  obtain ⟨fuel, h⟩ := h
  obtain ⟨x, h1, h2⟩ := o.h h hw
  refine ⟨x, ?_, h2⟩
  obtain ⟨dd, hu1, hu2⟩ := hu
  have hc : ∃ cs, v = .agg cs := by
    unfold Value.okWide at hv
    rw [hu1] at hv
    cases dd <;> simp [isRowD] at hu2
    · obtain ⟨cs, rfl, _⟩ := hv; exact ⟨cs, rfl⟩
    · obtain ⟨cs, rfl, _⟩ := hv; exact ⟨cs, rfl⟩
  obtain ⟨cs, rfl⟩ := hc
  have : (Deep.cells x).toList = cs.toList := h1
  rw [Array.toList_inj.1 this]

structure Arg (H : Type) (enc : TypeId × Value → H) (P : Program) (W : World) (b : Nat) (t : TypeId) (v : Value) : Prop where
  ok : Value.okWide P W .any b t v
  trod : ∃ d ps, DataW.Trod enc P W 0 (fun _ => true) true t v d ps ∧ ∀ n ∈ d.weights P t, n ≤ reachBytes
theorem Arg.sl {H : Type} {enc : TypeId × Value → H} {W : World} {b : Nat} {t e : TypeId} {v : Value} (h : Arg H enc P W b t v) (hu : P.underlying t = some (.slice e)) (τ : Type) [Deep τ] [o : OpenT P t (Sl τ)] : ∃ x : Sl τ, v = x.sv.val ∧ Deep.good (hp W) x := by
  obtain ⟨d, ps, h1, h2⟩ := h.trod
  exact arg_sl hu h.ok h1 h2
theorem Arg.agg {H : Type} {enc : TypeId × Value → H} {W : World} {b : Nat} {t : TypeId} {v : Value} (h : Arg H enc P W b t v) {n : Nat} (hu : RowT P t n) (τ : Type) [Deep τ] [o : OpenT P t τ] : ∃ x : τ, v = .agg (Deep.cells x) ∧ Deep.good (hp W) x := by
  obtain ⟨d, ps, h1, h2⟩ := h.trod
  exact arg_agg hu.row h.ok h1 h2

theorem trodAll_get {H : Type} {enc : TypeId × Value → H} {W : World} {sp : Nat → Bool} {hd : Bool} : ∀ {ts : List TypeId} {vs : List Value} {ds : List (DataW H)} {ps : List MemPlace}, DataW.TrodAll enc P W 0 sp hd ts vs ds ps → ∀ (j : Nat) (t : TypeId) (v : Value), ts[j]? = some t → vs[j]? = some v →
    ∃ d p, ds[j]? = some d ∧ DataW.Trod enc P W 0 sp hd t v d p
  | [], _, _, _, h, j, _, _, ht, _ => by simp at ht
  | t0 :: ts, vs, ds, ps, h, j, t, v, ht, hv => by
    obtain ⟨v0, vs1, d0, ds1, a, b, rfl, rfl, rfl, h1, h2⟩ := trodAll_cons h
    cases j with
    | zero =>
      obtain rfl : t0 = t := by simpa using ht
      obtain rfl : v0 = v := by simpa using hv
      exact ⟨d0, a, rfl, h1⟩
    | succ j => exact trodAll_get h2 j t v (by simpa using ht) (by simpa using hv)

theorem lifted_true2 {H : Type} {enc : TypeId × Value → H} {C : Checked} {os : Os} {f : FuncId} {fn : Func} {s : ChangeSpec} {conds : List PathCond} {apart fresh handsOn : Bool} {tb : TypeId}
    (own : ownKnob C.prog.godebug = none) (started : os.Started) (noInit : C.prog.inits.idxOf? f = none) (hfunc : C.prog.funcs[f]? = some fn)
    (wit : ∃ (w : World) (tape : Tape) (i : Input), w.os = os ∧ (w.forCall tape i).Shaped C.prog ∧ i.vars = [] ∧ Input.okWide C.prog (w.forCall tape i) .any w.heap.size f i ∧
      s.pre6 enc C.prog fn conds apart (w.forCall tape i).memory i.args ∧ ({} : Assume).holds C.prog (lone (Frame.enter C.prog f i.args .normal) [] (w.forCall tape i)))
    (hl : laidOutB C.prog = true) (hp : fn.params.toList.all (fun t => C.prog.readableRec t && decide (t < C.prog.types.size)) = true) (hr : fn.resultTypes = #[tb]) (hb : C.prog.underlying tb = some .bool)
    (hv : s.vars = []) (hfn : ∀ ds : List (DataW H), ds.length = fn.params.size → s.fn H ds = { results := [.lit (.bool true)], args := ds })
    (contract : ∀ (W : World) (base : Nat) (vs : List Value), vs.length = fn.params.size → (∀ (j : Nat) t v, fn.params[j]? = some t → vs[j]? = some v → Arg H enc C.prog W base t v) →
      Calls C.prog f vs.toArray W fun e W' => e = .returned (.bool true) ∧ Mem W [] W') :
    ReturnsInHanded {} C os f .any (s.pre6 enc C.prog fn conds apart) (s.post enc C.prog fn apart fresh handsOn false) := by
  refine returnsInHanded_of_change_shaped own started noInit hfunc wit ?_
  intro W base args ds gs before hval hW _ hwt _ _
  have hlen : args.toList.length = fn.params.size := by
    obtain ⟨p, q, hA, _⟩ := hW
    rw [(trodAll_length hA).1]; simp
  have h := contract W base args.toList hlen (fun j t v h1 h2 => ⟨hval j t v h1 (by simpa using h2), by
    obtain ⟨p, q, hA, _⟩ := hW
    obtain ⟨d, pp, hd, ht⟩ := trodAll_get hA j t v (by simpa using h1) h2
    refine ⟨d, pp, ht, fun n hn => ?_⟩
    have hh := List.all_eq_true.1 hwt n (mem_weightsEach (i := j) (t := t) (d := d) (by rw [List.getElem?_append_left (by have := (Array.getElem?_eq_some_iff.1 h1).1; simpa using this)]; simpa using h1)
      (by rw [List.getElem?_append_left (List.getElem?_eq_some_iff.1 hd).1]; exact hd) hn)
    simpa using hh⟩)
  rw [Array.toArray_toList] at h
  exact h.mono fun e W' hh => ⟨_, hh.1, post_true hl hp hr hb hv hfn hW hh.2.below⟩
end Go.Eng

/- What this translation says of its own types and functions, a row each. -/
namespace Go.Proofs.Ytklhkejhndnhbaa
open Go.Eng

instance oneT1 : OneT Try.prog 1 := ⟨⟨_, Try.underlying1, rfl⟩, by kernel_rfl⟩
instance oneT2 : OneT Try.prog 2 := ⟨⟨_, Try.underlying2, rfl⟩, by kernel_rfl⟩
instance intT2 : IntT Try.prog 2 .i64 := ⟨Try.underlying2⟩
instance oneT3 : OneT Try.prog 3 := ⟨⟨_, Try.underlying3, rfl⟩, by kernel_rfl⟩
instance intT3 : IntT Try.prog 3 .i64 := ⟨Try.underlying3⟩
instance oneT4 : OneT Try.prog 4 := ⟨⟨_, Try.underlying4, rfl⟩, by kernel_rfl⟩
instance oneT5 : OneT Try.prog 5 := ⟨⟨_, Try.underlying5, rfl⟩, by kernel_rfl⟩
instance intT5 : IntT Try.prog 5 .u8 := ⟨Try.underlying5⟩
instance oneT6 : OneT Try.prog 6 := ⟨⟨_, Try.underlying6, rfl⟩, by kernel_rfl⟩
instance intT6 : IntT Try.prog 6 .u8 := ⟨Try.underlying6⟩
instance rowT7 : RowT Try.prog 7 4 := ⟨⟨_, Try.underlying7, rfl⟩, by kernel_rfl⟩
instance fld7_0 : FieldT Try.prog 7 0 0 := ⟨⟨_, _, 0, Try.underlying7, rfl, rfl, by kernel_rfl⟩⟩
instance fld7_1 : FieldT Try.prog 7 1 1 := ⟨⟨_, _, 0, Try.underlying7, rfl, rfl, by kernel_rfl⟩⟩
instance fld7_2 : FieldT Try.prog 7 2 2 := ⟨⟨_, _, 0, Try.underlying7, rfl, rfl, by kernel_rfl⟩⟩
instance fld7_3 : FieldT Try.prog 7 3 3 := ⟨⟨_, _, 0, Try.underlying7, rfl, rfl, by kernel_rfl⟩⟩
instance rowT8 : RowT Try.prog 8 4 := ⟨⟨_, Try.underlying8, rfl⟩, by kernel_rfl⟩
instance fld8_0 : FieldT Try.prog 8 0 0 := ⟨⟨_, _, 0, Try.underlying8, rfl, rfl, by kernel_rfl⟩⟩
instance fld8_1 : FieldT Try.prog 8 1 1 := ⟨⟨_, _, 0, Try.underlying8, rfl, rfl, by kernel_rfl⟩⟩
instance fld8_2 : FieldT Try.prog 8 2 2 := ⟨⟨_, _, 0, Try.underlying8, rfl, rfl, by kernel_rfl⟩⟩
instance fld8_3 : FieldT Try.prog 8 3 3 := ⟨⟨_, _, 0, Try.underlying8, rfl, rfl, by kernel_rfl⟩⟩
instance oneT9 : OneT Try.prog 9 := ⟨⟨_, Try.underlying9, rfl⟩, by kernel_rfl⟩
instance oneT10 : OneT Try.prog 10 := ⟨⟨_, Try.underlying10, rfl⟩, by kernel_rfl⟩
instance oneT11 : OneT Try.prog 11 := ⟨⟨_, Try.underlying11, rfl⟩, by kernel_rfl⟩
instance oneT12 : OneT Try.prog 12 := ⟨⟨_, Try.underlying12, rfl⟩, by kernel_rfl⟩
instance intT12 : IntT Try.prog 12 .u64 := ⟨Try.underlying12⟩
instance rowT13 : RowT Try.prog 13 2 := ⟨⟨_, Try.underlying13, rfl⟩, by kernel_rfl⟩
instance fld13_0 : FieldT Try.prog 13 0 0 := ⟨⟨_, _, 0, Try.underlying13, rfl, rfl, by kernel_rfl⟩⟩
instance fld13_1 : FieldT Try.prog 13 1 1 := ⟨⟨_, _, 0, Try.underlying13, rfl, rfl, by kernel_rfl⟩⟩
instance rowT14 : RowT Try.prog 14 2 := ⟨⟨_, Try.underlying14, rfl⟩, by kernel_rfl⟩
instance fld14_0 : FieldT Try.prog 14 0 0 := ⟨⟨_, _, 0, Try.underlying14, rfl, rfl, by kernel_rfl⟩⟩
instance fld14_1 : FieldT Try.prog 14 1 1 := ⟨⟨_, _, 0, Try.underlying14, rfl, rfl, by kernel_rfl⟩⟩
instance oneT15 : OneT Try.prog 15 := ⟨⟨_, Try.underlying15, rfl⟩, by kernel_rfl⟩
instance oneT16 : OneT Try.prog 16 := ⟨⟨_, Try.underlying16, rfl⟩, by kernel_rfl⟩
instance oneT17 : OneT Try.prog 17 := ⟨⟨_, Try.underlying17, rfl⟩, by kernel_rfl⟩
instance rowT18 : RowT Try.prog 18 1 := ⟨⟨_, Try.underlying18, rfl⟩, by kernel_rfl⟩
instance fld18_0 : FieldT Try.prog 18 0 0 := ⟨⟨_, _, 0, Try.underlying18, rfl, rfl, by kernel_rfl⟩⟩
instance rowT19 : RowT Try.prog 19 1 := ⟨⟨_, Try.underlying19, rfl⟩, by kernel_rfl⟩
instance fld19_0 : FieldT Try.prog 19 0 0 := ⟨⟨_, _, 0, Try.underlying19, rfl, rfl, by kernel_rfl⟩⟩
instance oneT21 : OneT Try.prog 21 := ⟨⟨_, Try.underlying21, rfl⟩, by kernel_rfl⟩
instance intT21 : IntT Try.prog 21 .i32 := ⟨Try.underlying21⟩
instance oneT22 : OneT Try.prog 22 := ⟨⟨_, Try.underlying22, rfl⟩, by kernel_rfl⟩
instance sliceT22 : SliceT Try.prog 22 57 19 := ⟨Try.underlying22, by kernel_rfl⟩
instance rowT23 : RowT Try.prog 23 16 := ⟨⟨_, Try.underlying23, rfl⟩, by kernel_rfl⟩
instance arrT23 : ArrT Try.prog 23 16 1 := ⟨⟨_, Try.underlying23, by kernel_rfl⟩⟩
instance rowT24 : RowT Try.prog 24 16 := ⟨⟨_, Try.underlying24, rfl⟩, by kernel_rfl⟩
instance arrT24 : ArrT Try.prog 24 16 1 := ⟨⟨_, Try.underlying24, by kernel_rfl⟩⟩
instance oneT25 : OneT Try.prog 25 := ⟨⟨_, Try.underlying25, rfl⟩, by kernel_rfl⟩
instance oneT26 : OneT Try.prog 26 := ⟨⟨_, Try.underlying26, rfl⟩, by kernel_rfl⟩
instance oneT27 : OneT Try.prog 27 := ⟨⟨_, Try.underlying27, rfl⟩, by kernel_rfl⟩
instance sliceT27 : SliceT Try.prog 27 80 48 := ⟨Try.underlying27, by kernel_rfl⟩
instance rowT28 : RowT Try.prog 28 2 := ⟨⟨_, Try.underlying28, rfl⟩, by kernel_rfl⟩
instance fld28_0 : FieldT Try.prog 28 0 0 := ⟨⟨_, _, 0, Try.underlying28, rfl, rfl, by kernel_rfl⟩⟩
instance fld28_1 : FieldT Try.prog 28 1 1 := ⟨⟨_, _, 0, Try.underlying28, rfl, rfl, by kernel_rfl⟩⟩
instance rowT29 : RowT Try.prog 29 2 := ⟨⟨_, Try.underlying29, rfl⟩, by kernel_rfl⟩
instance fld29_0 : FieldT Try.prog 29 0 0 := ⟨⟨_, _, 0, Try.underlying29, rfl, rfl, by kernel_rfl⟩⟩
instance fld29_1 : FieldT Try.prog 29 1 1 := ⟨⟨_, _, 0, Try.underlying29, rfl, rfl, by kernel_rfl⟩⟩
instance oneT30 : OneT Try.prog 30 := ⟨⟨_, Try.underlying30, rfl⟩, by kernel_rfl⟩
instance intT30 : IntT Try.prog 30 .i64 := ⟨Try.underlying30⟩
instance oneT32 : OneT Try.prog 32 := ⟨⟨_, Try.underlying32, rfl⟩, by kernel_rfl⟩
instance oneT33 : OneT Try.prog 33 := ⟨⟨_, Try.underlying33, rfl⟩, by kernel_rfl⟩
instance sliceT33 : SliceT Try.prog 33 49 1 := ⟨Try.underlying33, by kernel_rfl⟩
instance oneT35 : OneT Try.prog 35 := ⟨⟨_, Try.underlying35, rfl⟩, by kernel_rfl⟩
instance oneT36 : OneT Try.prog 36 := ⟨⟨_, Try.underlying36, rfl⟩, by kernel_rfl⟩
instance sliceT36 : SliceT Try.prog 36 3 1 := ⟨Try.underlying36, by kernel_rfl⟩
instance oneT37 : OneT Try.prog 37 := ⟨⟨_, Try.underlying37, rfl⟩, by kernel_rfl⟩
instance oneT38 : OneT Try.prog 38 := ⟨⟨_, Try.underlying38, rfl⟩, by kernel_rfl⟩
instance sliceT38 : SliceT Try.prog 38 51 2 := ⟨Try.underlying38, by kernel_rfl⟩
instance rowT39 : RowT Try.prog 39 2 := ⟨⟨_, Try.underlying39, rfl⟩, by kernel_rfl⟩
instance fld39_0 : FieldT Try.prog 39 0 0 := ⟨⟨_, _, 0, Try.underlying39, rfl, rfl, by kernel_rfl⟩⟩
instance fld39_1 : FieldT Try.prog 39 1 1 := ⟨⟨_, _, 0, Try.underlying39, rfl, rfl, by kernel_rfl⟩⟩
instance rowT40 : RowT Try.prog 40 2 := ⟨⟨_, Try.underlying40, rfl⟩, by kernel_rfl⟩
instance fld40_0 : FieldT Try.prog 40 0 0 := ⟨⟨_, _, 0, Try.underlying40, rfl, rfl, by kernel_rfl⟩⟩
instance fld40_1 : FieldT Try.prog 40 1 1 := ⟨⟨_, _, 0, Try.underlying40, rfl, rfl, by kernel_rfl⟩⟩
instance oneT42 : OneT Try.prog 42 := ⟨⟨_, Try.underlying42, rfl⟩, by kernel_rfl⟩
instance oneT43 : OneT Try.prog 43 := ⟨⟨_, Try.underlying43, rfl⟩, by kernel_rfl⟩
instance intT43 : IntT Try.prog 43 .u16 := ⟨Try.underlying43⟩
instance rowT44 : RowT Try.prog 44 6 := ⟨⟨_, Try.underlying44, rfl⟩, by kernel_rfl⟩
instance fld44_0 : FieldT Try.prog 44 0 0 := ⟨⟨_, _, 0, Try.underlying44, rfl, rfl, by kernel_rfl⟩⟩
instance fld44_1 : FieldT Try.prog 44 1 1 := ⟨⟨_, _, 0, Try.underlying44, rfl, rfl, by kernel_rfl⟩⟩
instance fld44_2 : FieldT Try.prog 44 2 2 := ⟨⟨_, _, 1, Try.underlying44, rfl, rfl, by kernel_rfl⟩⟩
instance fld44_3 : FieldT Try.prog 44 3 4 := ⟨⟨_, _, 0, Try.underlying44, rfl, rfl, by kernel_rfl⟩⟩
instance fld44_4 : FieldT Try.prog 44 4 5 := ⟨⟨_, _, 0, Try.underlying44, rfl, rfl, by kernel_rfl⟩⟩
instance rowT45 : RowT Try.prog 45 6 := ⟨⟨_, Try.underlying45, rfl⟩, by kernel_rfl⟩
instance fld45_0 : FieldT Try.prog 45 0 0 := ⟨⟨_, _, 0, Try.underlying45, rfl, rfl, by kernel_rfl⟩⟩
instance fld45_1 : FieldT Try.prog 45 1 1 := ⟨⟨_, _, 0, Try.underlying45, rfl, rfl, by kernel_rfl⟩⟩
instance fld45_2 : FieldT Try.prog 45 2 2 := ⟨⟨_, _, 1, Try.underlying45, rfl, rfl, by kernel_rfl⟩⟩
instance fld45_3 : FieldT Try.prog 45 3 4 := ⟨⟨_, _, 0, Try.underlying45, rfl, rfl, by kernel_rfl⟩⟩
instance fld45_4 : FieldT Try.prog 45 4 5 := ⟨⟨_, _, 0, Try.underlying45, rfl, rfl, by kernel_rfl⟩⟩
instance oneT47 : OneT Try.prog 47 := ⟨⟨_, Try.underlying47, rfl⟩, by kernel_rfl⟩
instance oneT48 : OneT Try.prog 48 := ⟨⟨_, Try.underlying48, rfl⟩, by kernel_rfl⟩
instance oneT49 : OneT Try.prog 49 := ⟨⟨_, Try.underlying49, rfl⟩, by kernel_rfl⟩
instance sliceT49 : SliceT Try.prog 49 5 1 := ⟨Try.underlying49, by kernel_rfl⟩
instance rowT50 : RowT Try.prog 50 2 := ⟨⟨_, Try.underlying50, rfl⟩, by kernel_rfl⟩
instance fld50_0 : FieldT Try.prog 50 0 0 := ⟨⟨_, _, 0, Try.underlying50, rfl, rfl, by kernel_rfl⟩⟩
instance fld50_1 : FieldT Try.prog 50 1 1 := ⟨⟨_, _, 0, Try.underlying50, rfl, rfl, by kernel_rfl⟩⟩
instance rowT51 : RowT Try.prog 51 2 := ⟨⟨_, Try.underlying51, rfl⟩, by kernel_rfl⟩
instance fld51_0 : FieldT Try.prog 51 0 0 := ⟨⟨_, _, 0, Try.underlying51, rfl, rfl, by kernel_rfl⟩⟩
instance fld51_1 : FieldT Try.prog 51 1 1 := ⟨⟨_, _, 0, Try.underlying51, rfl, rfl, by kernel_rfl⟩⟩
instance oneT52 : OneT Try.prog 52 := ⟨⟨_, Try.underlying52, rfl⟩, by kernel_rfl⟩
instance oneT53 : OneT Try.prog 53 := ⟨⟨_, Try.underlying53, rfl⟩, by kernel_rfl⟩
instance sliceT53 : SliceT Try.prog 53 24 16 := ⟨Try.underlying53, by kernel_rfl⟩
instance rowT54 : RowT Try.prog 54 18 := ⟨⟨_, Try.underlying54, rfl⟩, by kernel_rfl⟩
instance fld54_0 : FieldT Try.prog 54 0 0 := ⟨⟨_, _, 0, Try.underlying54, rfl, rfl, by kernel_rfl⟩⟩
instance fld54_1 : FieldT Try.prog 54 1 1 := ⟨⟨_, _, 0, Try.underlying54, rfl, rfl, by kernel_rfl⟩⟩
instance fld54_2 : FieldT Try.prog 54 2 2 := ⟨⟨_, _, 15, Try.underlying54, rfl, rfl, by kernel_rfl⟩⟩
instance rowT55 : RowT Try.prog 55 18 := ⟨⟨_, Try.underlying55, rfl⟩, by kernel_rfl⟩
instance fld55_0 : FieldT Try.prog 55 0 0 := ⟨⟨_, _, 0, Try.underlying55, rfl, rfl, by kernel_rfl⟩⟩
instance fld55_1 : FieldT Try.prog 55 1 1 := ⟨⟨_, _, 0, Try.underlying55, rfl, rfl, by kernel_rfl⟩⟩
instance fld55_2 : FieldT Try.prog 55 2 2 := ⟨⟨_, _, 15, Try.underlying55, rfl, rfl, by kernel_rfl⟩⟩
instance rowT56 : RowT Try.prog 56 19 := ⟨⟨_, Try.underlying56, rfl⟩, by kernel_rfl⟩
instance fld56_0 : FieldT Try.prog 56 0 0 := ⟨⟨_, _, 17, Try.underlying56, rfl, rfl, by kernel_rfl⟩⟩
instance fld56_1 : FieldT Try.prog 56 1 18 := ⟨⟨_, _, 0, Try.underlying56, rfl, rfl, by kernel_rfl⟩⟩
instance rowT57 : RowT Try.prog 57 19 := ⟨⟨_, Try.underlying57, rfl⟩, by kernel_rfl⟩
instance fld57_0 : FieldT Try.prog 57 0 0 := ⟨⟨_, _, 17, Try.underlying57, rfl, rfl, by kernel_rfl⟩⟩
instance fld57_1 : FieldT Try.prog 57 1 18 := ⟨⟨_, _, 0, Try.underlying57, rfl, rfl, by kernel_rfl⟩⟩
instance oneT59 : OneT Try.prog 59 := ⟨⟨_, Try.underlying59, rfl⟩, by kernel_rfl⟩
instance oneT60 : OneT Try.prog 60 := ⟨⟨_, Try.underlying60, rfl⟩, by kernel_rfl⟩
instance oneT61 : OneT Try.prog 61 := ⟨⟨_, Try.underlying61, rfl⟩, by kernel_rfl⟩
instance oneT62 : OneT Try.prog 62 := ⟨⟨_, Try.underlying62, rfl⟩, by kernel_rfl⟩
instance oneT63 : OneT Try.prog 63 := ⟨⟨_, Try.underlying63, rfl⟩, by kernel_rfl⟩
instance oneT64 : OneT Try.prog 64 := ⟨⟨_, Try.underlying64, rfl⟩, by kernel_rfl⟩
instance oneT65 : OneT Try.prog 65 := ⟨⟨_, Try.underlying65, rfl⟩, by kernel_rfl⟩
instance oneT66 : OneT Try.prog 66 := ⟨⟨_, Try.underlying66, rfl⟩, by kernel_rfl⟩
instance oneT67 : OneT Try.prog 67 := ⟨⟨_, Try.underlying67, rfl⟩, by kernel_rfl⟩
instance rowT68 : RowT Try.prog 68 2 := ⟨⟨_, Try.underlying68, rfl⟩, by kernel_rfl⟩
instance fld68_0 : FieldT Try.prog 68 0 0 := ⟨⟨_, _, 1, Try.underlying68, rfl, rfl, by kernel_rfl⟩⟩
instance rowT69 : RowT Try.prog 69 2 := ⟨⟨_, Try.underlying69, rfl⟩, by kernel_rfl⟩
instance fld69_0 : FieldT Try.prog 69 0 0 := ⟨⟨_, _, 1, Try.underlying69, rfl, rfl, by kernel_rfl⟩⟩
instance oneT70 : OneT Try.prog 70 := ⟨⟨_, Try.underlying70, rfl⟩, by kernel_rfl⟩
instance oneT71 : OneT Try.prog 71 := ⟨⟨_, Try.underlying71, rfl⟩, by kernel_rfl⟩
instance oneT72 : OneT Try.prog 72 := ⟨⟨_, Try.underlying72, rfl⟩, by kernel_rfl⟩
instance oneT73 : OneT Try.prog 73 := ⟨⟨_, Try.underlying73, rfl⟩, by kernel_rfl⟩
instance oneT74 : OneT Try.prog 74 := ⟨⟨_, Try.underlying74, rfl⟩, by kernel_rfl⟩
instance rowT75 : RowT Try.prog 75 2 := ⟨⟨_, Try.underlying75, rfl⟩, by kernel_rfl⟩
instance fld75_0 : FieldT Try.prog 75 0 0 := ⟨⟨_, _, 0, Try.underlying75, rfl, rfl, by kernel_rfl⟩⟩
instance fld75_1 : FieldT Try.prog 75 1 1 := ⟨⟨_, _, 0, Try.underlying75, rfl, rfl, by kernel_rfl⟩⟩
instance rowT76 : RowT Try.prog 76 2 := ⟨⟨_, Try.underlying76, rfl⟩, by kernel_rfl⟩
instance fld76_0 : FieldT Try.prog 76 0 0 := ⟨⟨_, _, 0, Try.underlying76, rfl, rfl, by kernel_rfl⟩⟩
instance fld76_1 : FieldT Try.prog 76 1 1 := ⟨⟨_, _, 0, Try.underlying76, rfl, rfl, by kernel_rfl⟩⟩
instance rowT77 : RowT Try.prog 77 32 := ⟨⟨_, Try.underlying77, rfl⟩, by kernel_rfl⟩
instance arrT77 : ArrT Try.prog 77 16 2 := ⟨⟨_, Try.underlying77, by kernel_rfl⟩⟩
instance rowT78 : RowT Try.prog 78 16 := ⟨⟨_, Try.underlying78, rfl⟩, by kernel_rfl⟩
instance arrT78 : ArrT Try.prog 78 16 1 := ⟨⟨_, Try.underlying78, by kernel_rfl⟩⟩
instance rowT79 : RowT Try.prog 79 48 := ⟨⟨_, Try.underlying79, rfl⟩, by kernel_rfl⟩
instance fld79_0 : FieldT Try.prog 79 0 0 := ⟨⟨_, _, 31, Try.underlying79, rfl, rfl, by kernel_rfl⟩⟩
instance fld79_1 : FieldT Try.prog 79 1 32 := ⟨⟨_, _, 15, Try.underlying79, rfl, rfl, by kernel_rfl⟩⟩
instance rowT80 : RowT Try.prog 80 48 := ⟨⟨_, Try.underlying80, rfl⟩, by kernel_rfl⟩
instance fld80_0 : FieldT Try.prog 80 0 0 := ⟨⟨_, _, 31, Try.underlying80, rfl, rfl, by kernel_rfl⟩⟩
instance fld80_1 : FieldT Try.prog 80 1 32 := ⟨⟨_, _, 15, Try.underlying80, rfl, rfl, by kernel_rfl⟩⟩
instance oneT82 : OneT Try.prog 82 := ⟨⟨_, Try.underlying82, rfl⟩, by kernel_rfl⟩
instance oneT83 : OneT Try.prog 83 := ⟨⟨_, Try.underlying83, rfl⟩, by kernel_rfl⟩
instance oneT84 : OneT Try.prog 84 := ⟨⟨_, Try.underlying84, rfl⟩, by kernel_rfl⟩
instance oneT85 : OneT Try.prog 85 := ⟨⟨_, Try.underlying85, rfl⟩, by kernel_rfl⟩
instance rowT86 : RowT Try.prog 86 8 := ⟨⟨_, Try.underlying86, rfl⟩, by kernel_rfl⟩
instance fld86_0 : FieldT Try.prog 86 0 0 := ⟨⟨_, _, 5, Try.underlying86, rfl, rfl, by kernel_rfl⟩⟩
instance fld86_1 : FieldT Try.prog 86 1 6 := ⟨⟨_, _, 0, Try.underlying86, rfl, rfl, by kernel_rfl⟩⟩
instance fld86_2 : FieldT Try.prog 86 2 7 := ⟨⟨_, _, 0, Try.underlying86, rfl, rfl, by kernel_rfl⟩⟩
instance rowT87 : RowT Try.prog 87 8 := ⟨⟨_, Try.underlying87, rfl⟩, by kernel_rfl⟩
instance fld87_0 : FieldT Try.prog 87 0 0 := ⟨⟨_, _, 5, Try.underlying87, rfl, rfl, by kernel_rfl⟩⟩
instance fld87_1 : FieldT Try.prog 87 1 6 := ⟨⟨_, _, 0, Try.underlying87, rfl, rfl, by kernel_rfl⟩⟩
instance fld87_2 : FieldT Try.prog 87 2 7 := ⟨⟨_, _, 0, Try.underlying87, rfl, rfl, by kernel_rfl⟩⟩
instance oneT88 : OneT Try.prog 88 := ⟨⟨_, Try.underlying88, rfl⟩, by kernel_rfl⟩
instance oneT90 : OneT Try.prog 90 := ⟨⟨_, Try.underlying90, rfl⟩, by kernel_rfl⟩
instance oneT91 : OneT Try.prog 91 := ⟨⟨_, Try.underlying91, rfl⟩, by kernel_rfl⟩
instance oneT92 : OneT Try.prog 92 := ⟨⟨_, Try.underlying92, rfl⟩, by kernel_rfl⟩
instance oneT93 : OneT Try.prog 93 := ⟨⟨_, Try.underlying93, rfl⟩, by kernel_rfl⟩
instance oneT94 : OneT Try.prog 94 := ⟨⟨_, Try.underlying94, rfl⟩, by kernel_rfl⟩
instance oneT96 : OneT Try.prog 96 := ⟨⟨_, Try.underlying96, rfl⟩, by kernel_rfl⟩
instance oneT98 : OneT Try.prog 98 := ⟨⟨_, Try.underlying98, rfl⟩, by kernel_rfl⟩
instance oneT99 : OneT Try.prog 99 := ⟨⟨_, Try.underlying99, rfl⟩, by kernel_rfl⟩
instance oneT100 : OneT Try.prog 100 := ⟨⟨_, Try.underlying100, rfl⟩, by kernel_rfl⟩
instance oneT101 : OneT Try.prog 101 := ⟨⟨_, Try.underlying101, rfl⟩, by kernel_rfl⟩
instance oneT102 : OneT Try.prog 102 := ⟨⟨_, Try.underlying102, rfl⟩, by kernel_rfl⟩
instance oneT103 : OneT Try.prog 103 := ⟨⟨_, Try.underlying103, rfl⟩, by kernel_rfl⟩
instance oneT104 : OneT Try.prog 104 := ⟨⟨_, Try.underlying104, rfl⟩, by kernel_rfl⟩
instance oneT105 : OneT Try.prog 105 := ⟨⟨_, Try.underlying105, rfl⟩, by kernel_rfl⟩
instance oneT106 : OneT Try.prog 106 := ⟨⟨_, Try.underlying106, rfl⟩, by kernel_rfl⟩
instance oneT107 : OneT Try.prog 107 := ⟨⟨_, Try.underlying107, rfl⟩, by kernel_rfl⟩
instance intT107 : IntT Try.prog 107 .u64 := ⟨Try.underlying107⟩
instance oneT108 : OneT Try.prog 108 := ⟨⟨_, Try.underlying108, rfl⟩, by kernel_rfl⟩
instance oneT109 : OneT Try.prog 109 := ⟨⟨_, Try.underlying109, rfl⟩, by kernel_rfl⟩
instance oneT111 : OneT Try.prog 111 := ⟨⟨_, Try.underlying111, rfl⟩, by kernel_rfl⟩
instance oneT112 : OneT Try.prog 112 := ⟨⟨_, Try.underlying112, rfl⟩, by kernel_rfl⟩
instance oneT113 : OneT Try.prog 113 := ⟨⟨_, Try.underlying113, rfl⟩, by kernel_rfl⟩
instance oneT114 : OneT Try.prog 114 := ⟨⟨_, Try.underlying114, rfl⟩, by kernel_rfl⟩
instance oneT115 : OneT Try.prog 115 := ⟨⟨_, Try.underlying115, rfl⟩, by kernel_rfl⟩
instance oneT116 : OneT Try.prog 116 := ⟨⟨_, Try.underlying116, rfl⟩, by kernel_rfl⟩
instance oneT117 : OneT Try.prog 117 := ⟨⟨_, Try.underlying117, rfl⟩, by kernel_rfl⟩
instance oneT118 : OneT Try.prog 118 := ⟨⟨_, Try.underlying118, rfl⟩, by kernel_rfl⟩
instance oneT120 : OneT Try.prog 120 := ⟨⟨_, Try.underlying120, rfl⟩, by kernel_rfl⟩
instance oneT121 : OneT Try.prog 121 := ⟨⟨_, Try.underlying121, rfl⟩, by kernel_rfl⟩
instance oneT122 : OneT Try.prog 122 := ⟨⟨_, Try.underlying122, rfl⟩, by kernel_rfl⟩
instance rowT123 : RowT Try.prog 123 4 := ⟨⟨_, Try.underlying123, rfl⟩, by kernel_rfl⟩
instance fld123_0 : FieldT Try.prog 123 0 0 := ⟨⟨_, _, 0, Try.underlying123, rfl, rfl, by kernel_rfl⟩⟩
instance fld123_1 : FieldT Try.prog 123 1 1 := ⟨⟨_, _, 0, Try.underlying123, rfl, rfl, by kernel_rfl⟩⟩
instance fld123_2 : FieldT Try.prog 123 2 2 := ⟨⟨_, _, 0, Try.underlying123, rfl, rfl, by kernel_rfl⟩⟩
instance fld123_3 : FieldT Try.prog 123 3 3 := ⟨⟨_, _, 0, Try.underlying123, rfl, rfl, by kernel_rfl⟩⟩
instance rowT124 : RowT Try.prog 124 4 := ⟨⟨_, Try.underlying124, rfl⟩, by kernel_rfl⟩
instance fld124_0 : FieldT Try.prog 124 0 0 := ⟨⟨_, _, 0, Try.underlying124, rfl, rfl, by kernel_rfl⟩⟩
instance fld124_1 : FieldT Try.prog 124 1 1 := ⟨⟨_, _, 0, Try.underlying124, rfl, rfl, by kernel_rfl⟩⟩
instance fld124_2 : FieldT Try.prog 124 2 2 := ⟨⟨_, _, 0, Try.underlying124, rfl, rfl, by kernel_rfl⟩⟩
instance fld124_3 : FieldT Try.prog 124 3 3 := ⟨⟨_, _, 0, Try.underlying124, rfl, rfl, by kernel_rfl⟩⟩
instance rowT125 : RowT Try.prog 125 0 := ⟨⟨_, Try.underlying125, rfl⟩, by kernel_rfl⟩
instance arrT125 : ArrT Try.prog 125 0 1 := ⟨⟨_, Try.underlying125, by kernel_rfl⟩⟩
instance rowT126 : RowT Try.prog 126 0 := ⟨⟨_, Try.underlying126, rfl⟩, by kernel_rfl⟩
instance rowT127 : RowT Try.prog 127 0 := ⟨⟨_, Try.underlying127, rfl⟩, by kernel_rfl⟩
instance oneT128 : OneT Try.prog 128 := ⟨⟨_, Try.underlying128, rfl⟩, by kernel_rfl⟩
instance oneT129 : OneT Try.prog 129 := ⟨⟨_, Try.underlying129, rfl⟩, by kernel_rfl⟩
instance intT129 : IntT Try.prog 129 .u32 := ⟨Try.underlying129⟩
instance oneT130 : OneT Try.prog 130 := ⟨⟨_, Try.underlying130, rfl⟩, by kernel_rfl⟩
instance intT130 : IntT Try.prog 130 .u8 := ⟨Try.underlying130⟩
instance oneT131 : OneT Try.prog 131 := ⟨⟨_, Try.underlying131, rfl⟩, by kernel_rfl⟩
instance intT131 : IntT Try.prog 131 .u8 := ⟨Try.underlying131⟩
instance oneT132 : OneT Try.prog 132 := ⟨⟨_, Try.underlying132, rfl⟩, by kernel_rfl⟩
instance oneT133 : OneT Try.prog 133 := ⟨⟨_, Try.underlying133, rfl⟩, by kernel_rfl⟩
instance oneT134 : OneT Try.prog 134 := ⟨⟨_, Try.underlying134, rfl⟩, by kernel_rfl⟩
instance intT134 : IntT Try.prog 134 .i32 := ⟨Try.underlying134⟩
instance oneT135 : OneT Try.prog 135 := ⟨⟨_, Try.underlying135, rfl⟩, by kernel_rfl⟩
instance intT135 : IntT Try.prog 135 .i32 := ⟨Try.underlying135⟩
instance rowT136 : RowT Try.prog 136 11 := ⟨⟨_, Try.underlying136, rfl⟩, by kernel_rfl⟩
instance fld136_0 : FieldT Try.prog 136 0 0 := ⟨⟨_, _, 0, Try.underlying136, rfl, rfl, by kernel_rfl⟩⟩
instance fld136_1 : FieldT Try.prog 136 1 1 := ⟨⟨_, _, 0, Try.underlying136, rfl, rfl, by kernel_rfl⟩⟩
instance fld136_2 : FieldT Try.prog 136 2 2 := ⟨⟨_, _, 0, Try.underlying136, rfl, rfl, by kernel_rfl⟩⟩
instance fld136_3 : FieldT Try.prog 136 3 3 := ⟨⟨_, _, 0, Try.underlying136, rfl, rfl, by kernel_rfl⟩⟩
instance fld136_4 : FieldT Try.prog 136 4 4 := ⟨⟨_, _, 0, Try.underlying136, rfl, rfl, by kernel_rfl⟩⟩
instance fld136_5 : FieldT Try.prog 136 5 5 := ⟨⟨_, _, 0, Try.underlying136, rfl, rfl, by kernel_rfl⟩⟩
instance fld136_6 : FieldT Try.prog 136 6 6 := ⟨⟨_, _, 0, Try.underlying136, rfl, rfl, by kernel_rfl⟩⟩
instance fld136_7 : FieldT Try.prog 136 7 7 := ⟨⟨_, _, 0, Try.underlying136, rfl, rfl, by kernel_rfl⟩⟩
instance fld136_8 : FieldT Try.prog 136 8 8 := ⟨⟨_, _, 0, Try.underlying136, rfl, rfl, by kernel_rfl⟩⟩
instance fld136_9 : FieldT Try.prog 136 9 9 := ⟨⟨_, _, 0, Try.underlying136, rfl, rfl, by kernel_rfl⟩⟩
instance fld136_10 : FieldT Try.prog 136 10 10 := ⟨⟨_, _, 0, Try.underlying136, rfl, rfl, by kernel_rfl⟩⟩
instance rowT137 : RowT Try.prog 137 11 := ⟨⟨_, Try.underlying137, rfl⟩, by kernel_rfl⟩
instance fld137_0 : FieldT Try.prog 137 0 0 := ⟨⟨_, _, 0, Try.underlying137, rfl, rfl, by kernel_rfl⟩⟩
instance fld137_1 : FieldT Try.prog 137 1 1 := ⟨⟨_, _, 0, Try.underlying137, rfl, rfl, by kernel_rfl⟩⟩
instance fld137_2 : FieldT Try.prog 137 2 2 := ⟨⟨_, _, 0, Try.underlying137, rfl, rfl, by kernel_rfl⟩⟩
instance fld137_3 : FieldT Try.prog 137 3 3 := ⟨⟨_, _, 0, Try.underlying137, rfl, rfl, by kernel_rfl⟩⟩
instance fld137_4 : FieldT Try.prog 137 4 4 := ⟨⟨_, _, 0, Try.underlying137, rfl, rfl, by kernel_rfl⟩⟩
instance fld137_5 : FieldT Try.prog 137 5 5 := ⟨⟨_, _, 0, Try.underlying137, rfl, rfl, by kernel_rfl⟩⟩
instance fld137_6 : FieldT Try.prog 137 6 6 := ⟨⟨_, _, 0, Try.underlying137, rfl, rfl, by kernel_rfl⟩⟩
instance fld137_7 : FieldT Try.prog 137 7 7 := ⟨⟨_, _, 0, Try.underlying137, rfl, rfl, by kernel_rfl⟩⟩
instance fld137_8 : FieldT Try.prog 137 8 8 := ⟨⟨_, _, 0, Try.underlying137, rfl, rfl, by kernel_rfl⟩⟩
instance fld137_9 : FieldT Try.prog 137 9 9 := ⟨⟨_, _, 0, Try.underlying137, rfl, rfl, by kernel_rfl⟩⟩
instance fld137_10 : FieldT Try.prog 137 10 10 := ⟨⟨_, _, 0, Try.underlying137, rfl, rfl, by kernel_rfl⟩⟩
instance fn3 : IsFn Try.prog 3 := ⟨⟨Try.f3, Try.func3, by kernel_rfl, by kernel_rfl⟩⟩
instance fn4 : IsFn Try.prog 4 := ⟨⟨Try.f4, Try.func4, by kernel_rfl, by kernel_rfl⟩⟩
instance fn5 : IsFn Try.prog 5 := ⟨⟨Try.f5, Try.func5, by kernel_rfl, by kernel_rfl⟩⟩
instance fn6 : IsFn Try.prog 6 := ⟨⟨Try.f6, Try.func6, by kernel_rfl, by kernel_rfl⟩⟩
instance fn7 : IsFn Try.prog 7 := ⟨⟨Try.f7, Try.func7, by kernel_rfl, by kernel_rfl⟩⟩
instance fn8 : IsFn Try.prog 8 := ⟨⟨Try.f8, Try.func8, by kernel_rfl, by kernel_rfl⟩⟩
instance fn9 : IsFn Try.prog 9 := ⟨⟨Try.f9, Try.func9, by kernel_rfl, by kernel_rfl⟩⟩
instance fn10 : IsFn Try.prog 10 := ⟨⟨Try.f10, Try.func10, by kernel_rfl, by kernel_rfl⟩⟩
instance fn11 : IsFn Try.prog 11 := ⟨⟨Try.f11, Try.func11, by kernel_rfl, by kernel_rfl⟩⟩
instance fn12 : IsFn Try.prog 12 := ⟨⟨Try.f12, Try.func12, by kernel_rfl, by kernel_rfl⟩⟩
instance fn13 : IsFn Try.prog 13 := ⟨⟨Try.f13, Try.func13, by kernel_rfl, by kernel_rfl⟩⟩
instance fn14 : IsFn Try.prog 14 := ⟨⟨Try.f14, Try.func14, by kernel_rfl, by kernel_rfl⟩⟩
instance fn15 : IsFn Try.prog 15 := ⟨⟨Try.f15, Try.func15, by kernel_rfl, by kernel_rfl⟩⟩
instance fn16 : IsFn Try.prog 16 := ⟨⟨Try.f16, Try.func16, by kernel_rfl, by kernel_rfl⟩⟩
instance fn17 : IsFn Try.prog 17 := ⟨⟨Try.f17, Try.func17, by kernel_rfl, by kernel_rfl⟩⟩
instance fn18 : IsFn Try.prog 18 := ⟨⟨Try.f18, Try.func18, by kernel_rfl, by kernel_rfl⟩⟩
instance fn19 : IsFn Try.prog 19 := ⟨⟨Try.f19, Try.func19, by kernel_rfl, by kernel_rfl⟩⟩
instance fn20 : IsFn Try.prog 20 := ⟨⟨Try.f20, Try.func20, by kernel_rfl, by kernel_rfl⟩⟩
instance fn21 : IsFn Try.prog 21 := ⟨⟨Try.f21, Try.func21, by kernel_rfl, by kernel_rfl⟩⟩
instance fn22 : IsFn Try.prog 22 := ⟨⟨Try.f22, Try.func22, by kernel_rfl, by kernel_rfl⟩⟩
instance fn23 : IsFn Try.prog 23 := ⟨⟨Try.f23, Try.func23, by kernel_rfl, by kernel_rfl⟩⟩
instance fn24 : IsFn Try.prog 24 := ⟨⟨Try.f24, Try.func24, by kernel_rfl, by kernel_rfl⟩⟩
instance fn25 : IsFn Try.prog 25 := ⟨⟨Try.f25, Try.func25, by kernel_rfl, by kernel_rfl⟩⟩
instance fn26 : IsFn Try.prog 26 := ⟨⟨Try.f26, Try.func26, by kernel_rfl, by kernel_rfl⟩⟩
instance fn27 : IsFn Try.prog 27 := ⟨⟨Try.f27, Try.func27, by kernel_rfl, by kernel_rfl⟩⟩
instance fn28 : IsFn Try.prog 28 := ⟨⟨Try.f28, Try.func28, by kernel_rfl, by kernel_rfl⟩⟩
instance fn29 : IsFn Try.prog 29 := ⟨⟨Try.f29, Try.func29, by kernel_rfl, by kernel_rfl⟩⟩
instance fn30 : IsFn Try.prog 30 := ⟨⟨Try.f30, Try.func30, by kernel_rfl, by kernel_rfl⟩⟩
instance fn31 : IsFn Try.prog 31 := ⟨⟨Try.f31, Try.func31, by kernel_rfl, by kernel_rfl⟩⟩
instance fn32 : IsFn Try.prog 32 := ⟨⟨Try.f32, Try.func32, by kernel_rfl, by kernel_rfl⟩⟩
instance fn33 : IsFn Try.prog 33 := ⟨⟨Try.f33, Try.func33, by kernel_rfl, by kernel_rfl⟩⟩
instance fn34 : IsFn Try.prog 34 := ⟨⟨Try.f34, Try.func34, by kernel_rfl, by kernel_rfl⟩⟩
instance fn35 : IsFn Try.prog 35 := ⟨⟨Try.f35, Try.func35, by kernel_rfl, by kernel_rfl⟩⟩
instance fn36 : IsFn Try.prog 36 := ⟨⟨Try.f36, Try.func36, by kernel_rfl, by kernel_rfl⟩⟩
instance fn37 : IsFn Try.prog 37 := ⟨⟨Try.f37, Try.func37, by kernel_rfl, by kernel_rfl⟩⟩
instance fn38 : IsFn Try.prog 38 := ⟨⟨Try.f38, Try.func38, by kernel_rfl, by kernel_rfl⟩⟩
instance fn39 : IsFn Try.prog 39 := ⟨⟨Try.f39, Try.func39, by kernel_rfl, by kernel_rfl⟩⟩
instance fn40 : IsFn Try.prog 40 := ⟨⟨Try.f40, Try.func40, by kernel_rfl, by kernel_rfl⟩⟩
instance fn41 : IsFn Try.prog 41 := ⟨⟨Try.f41, Try.func41, by kernel_rfl, by kernel_rfl⟩⟩
instance fn42 : IsFn Try.prog 42 := ⟨⟨Try.f42, Try.func42, by kernel_rfl, by kernel_rfl⟩⟩
instance fn43 : IsFn Try.prog 43 := ⟨⟨Try.f43, Try.func43, by kernel_rfl, by kernel_rfl⟩⟩
instance fn44 : IsFn Try.prog 44 := ⟨⟨Try.f44, Try.func44, by kernel_rfl, by kernel_rfl⟩⟩
instance fn45 : IsFn Try.prog 45 := ⟨⟨Try.f45, Try.func45, by kernel_rfl, by kernel_rfl⟩⟩
instance fn46 : IsFn Try.prog 46 := ⟨⟨Try.f46, Try.func46, by kernel_rfl, by kernel_rfl⟩⟩
instance fn47 : IsFn Try.prog 47 := ⟨⟨Try.f47, Try.func47, by kernel_rfl, by kernel_rfl⟩⟩
instance fn48 : IsFn Try.prog 48 := ⟨⟨Try.f48, Try.func48, by kernel_rfl, by kernel_rfl⟩⟩
instance fn49 : IsFn Try.prog 49 := ⟨⟨Try.f49, Try.func49, by kernel_rfl, by kernel_rfl⟩⟩
instance fn50 : IsFn Try.prog 50 := ⟨⟨Try.f50, Try.func50, by kernel_rfl, by kernel_rfl⟩⟩
instance fn51 : IsFn Try.prog 51 := ⟨⟨Try.f51, Try.func51, by kernel_rfl, by kernel_rfl⟩⟩
instance fn53 : IsFn Try.prog 53 := ⟨⟨Try.f53, Try.func53, by kernel_rfl, by kernel_rfl⟩⟩

end Go.Proofs.Ytklhkejhndnhbaa

/- '==' on structs and arrays of plain cells. -/
namespace Go.Eng

def kdOk : Nat → Value → Value → Prop
  | 0, .int k _, .int k' _ => k = k'
  | 1, .bool _, .bool _ => True
  | 2, .string _, .string _ => True
  | _, _, _ => False

def isAggV : Value → Bool
  | .agg _ => true
  | _ => false

def EqF (P : Program) (d : Nat) (t : TypeId) (isA : Bool) (ks : List Nat) : Prop :=
  ∀ (w : World) (x y : Value), isAggV x = isA → isAggV y = isA → x.cells.size = ks.length → y.cells.size = ks.length →
    (∀ (i k : Nat), ks[i]? = some k → ∃ u v, x.cells[i]? = some u ∧ y.cells[i]? = some v ∧ kdOk k u v) →
    ∃ r : Bool, (Op.equalIn d t x y).run P w = .ok r w ∧ (r = true ↔ ∀ i, i < ks.length → x.cells[i]? = y.cells[i]?)

section
variable {P : Program} {d : Nat} {t : TypeId}

theorem cells_one {x : Value} (h : isAggV x = false) : x.cells = #[x] := by
  cases x <;> simp_all [isAggV, Value.cells]

theorem eqF_int {q : IntKind} (hu : P.underlying t = some (.int q)) : EqF P (d + 1) t false [0] := fun w x y hx hy _ _ hk => by
  obtain ⟨u, v, h1, h2, h3⟩ := hk 0 0 rfl
  rw [cells_one hx] at h1 ⊢
  rw [cells_one hy] at h2 ⊢
  simp at h1 h2
  subst h1 h2
  cases x <;> cases y <;> simp only [kdOk] at h3
  subst h3
  exact ⟨_, run_equalIn_int w d t _ q _ _ hu, by simp⟩
theorem eqF_bool (hu : P.underlying t = some .bool) : EqF P (d + 1) t false [1] := fun w x y hx hy _ _ hk => by
  obtain ⟨u, v, h1, h2, h3⟩ := hk 0 1 rfl
  rw [cells_one hx] at h1 ⊢
  rw [cells_one hy] at h2 ⊢
  simp at h1 h2
  subst h1 h2
  cases x <;> cases y <;> simp only [kdOk] at h3
  exact ⟨_, run_equalIn_bool' w d t _ _ hu, by simp⟩

theorem part_cells {e : TypeId} {isA : Bool} {n : Nat} (hA : ∃ de, P.underlying e = some de ∧ isRowD de = isA) (hn : (P.info? e).map (·.size) = some n) (h1 : isA = false → n = 1)
    {xs : Array Value} {off : Nat} (hlt : off + n ≤ xs.size) (hp : ∀ i u, off ≤ i → i < off + n → xs[i]? = some u → isAggV u = false) (w : World) :
    ∃ a, (part e xs off).run P w = .ok a w ∧ isAggV a = isA ∧ a.cells.size = n ∧ ∀ i, i < n → a.cells[i]? = xs[off + i]? := by
  obtain ⟨de, hu, hr⟩ := hA
  cases isA with
  | true =>
    refine ⟨.agg (xs.extract off (off + n)), ?_, rfl, by simp [Value.cells]; omega, fun i hi => ?_⟩
    · simp only [part, Sem.run_bind, run_isAgg' w hu, hr, Result.andThen_ok, if_true, run_sizeOf' w hn, Sem.run_pure]
    · simp [Value.cells, Array.getElem?_extract]
      intro h; omega
  | false =>
    have := h1 rfl
    subst this
    have hx : xs[off]? = some xs[off] := by simp [show off < xs.size by omega]
    have hnA := hp off _ (Nat.le_refl _) (by omega) hx
    refine ⟨xs[off], ?_, hnA, by rw [cells_one hnA]; rfl, fun i hi => ?_⟩
    · simp only [part, Sem.run_bind, run_isAgg' w hu, hr, Result.andThen_ok, hx, Bool.false_eq_true, if_false, Sem.run_pure]
    · obtain rfl : i = 0 := by omega
      rw [cells_one hnA, Nat.add_zero, hx]; rfl

theorem kdOk_plain {k : Nat} {u v : Value} (h : kdOk k u v) : isAggV u = false ∧ isAggV v = false := by
  unfold kdOk at h
  split at h <;> simp_all [isAggV]

structure PartT (P : Program) (d : Nat) (e : TypeId) (isA : Bool) (ks : List Nat) : Prop where
  row : ∃ de, P.underlying e = some de ∧ isRowD de = isA
  size : (P.info? e).map (·.size) = some ks.length
  one : isA = false → ks.length = 1
  eq : EqF P d e isA ks

theorem eq_step {e : TypeId} {isA : Bool} {ks : List Nat} (he : PartT P d e isA ks) {xs ys : Array Value} {off : Nat} (hx : off + ks.length ≤ xs.size) (hy : off + ks.length ≤ ys.size)
    (hk : ∀ (i k : Nat), ks[i]? = some k → ∃ u v, xs[off + i]? = some u ∧ ys[off + i]? = some v ∧ kdOk k u v) (w : World) :
    ∃ a b r, (part e xs off).run P w = .ok a w ∧ (part e ys off).run P w = .ok b w ∧ (Op.equalIn d e a b).run P w = .ok r w ∧ (r = true ↔ ∀ i, i < ks.length → xs[off + i]? = ys[off + i]?) := by
  have plain : ∀ i, off ≤ i → i < off + ks.length → ∃ u v k, xs[i]? = some u ∧ ys[i]? = some v ∧ kdOk k u v := fun i h1 h2 => by
    obtain ⟨u, v, h3, h4, h5⟩ := hk (i - off) _ (List.getElem?_eq_getElem (by omega))
    rw [show off + (i - off) = i by omega] at h3 h4
    exact ⟨u, v, _, h3, h4, h5⟩
  obtain ⟨a, a1, a2, a3, a4⟩ := part_cells he.row he.size he.one hx (fun i u h1 h2 h3 => by
    obtain ⟨u', v, k, h4, h5, h6⟩ := plain i h1 h2
    rw [h4] at h3; cases h3; exact (kdOk_plain h6).1) w
  obtain ⟨b, b1, b2, b3, b4⟩ := part_cells he.row he.size he.one hy (fun i u h1 h2 h3 => by
    obtain ⟨u', v, k, h4, h5, h6⟩ := plain i h1 h2
    rw [h5] at h3; cases h3; exact (kdOk_plain h6).2) w
  obtain ⟨r, r1, r2⟩ := he.eq w a b a2 b2 a3 b3 (fun i k hik => by
    obtain ⟨u, v, h1, h2, h3⟩ := hk i k hik
    have hi : i < ks.length := (List.getElem?_eq_some_iff.1 hik).1
    exact ⟨u, v, by rw [a4 i hi]; exact h1, by rw [b4 i hi]; exact h2, h3⟩)
  refine ⟨a, b, r, a1, b1, r1, r2.trans ⟨fun h i hi => ?_, fun h i hi => ?_⟩⟩
  · rw [← a4 i hi, ← b4 i hi]; exact h i hi
  · rw [a4 i hi, b4 i hi]; exact h i hi

theorem run_eqItems' {e : TypeId} {isA : Bool} {ks : List Nat} (he : PartT P d e isA ks) {xs ys : Array Value} (w : World) : ∀ (is : List Nat),
    (∀ j ∈ is, j * ks.length + ks.length ≤ xs.size ∧ j * ks.length + ks.length ≤ ys.size ∧ ∀ (i k : Nat), ks[i]? = some k → ∃ u v, xs[j * ks.length + i]? = some u ∧ ys[j * ks.length + i]? = some v ∧ kdOk k u v) →
    ∃ r : Bool, (Op.eqItems d e ks.length xs ys is).run P w = .ok r w ∧ (r = true ↔ ∀ j ∈ is, ∀ i, i < ks.length → xs[j * ks.length + i]? = ys[j * ks.length + i]?)
  | [], _ => ⟨true, by simp [Op.eqItems], by simp⟩
  | j :: is, h => by
    obtain ⟨h1, h2, h3⟩ := h j (by simp)
    obtain ⟨a, b, r, p1, p2, p3, hiff⟩ := eq_step he h1 h2 h3 w
    obtain ⟨r', hr', hiff'⟩ := run_eqItems' he w is (fun j' hj' => h j' (by simp [hj']))
    simp only [Op.eqItems, Sem.run_bind, p1, p2, p3, Result.andThen_ok]
    cases r
    · refine ⟨false, by simp, ?_⟩
      simp only [Bool.false_eq_true, false_iff]
      intro e
      exact absurd (hiff.2 (e j (by simp))) (by simp)
    · refine ⟨r', by simpa using hr', ?_⟩
      rw [hiff']
      have := hiff.1 rfl
      constructor
      · intro e j' hj'
        rcases List.mem_cons.1 hj' with rfl | hj'
        · exact this
        · exact e j' hj'
      · intro e j' hj'; exact e j' (by simp [hj'])

theorem flat_get {ks : List Nat} : ∀ {n j i : Nat}, j < n → i < ks.length → (List.replicate n ks).flatten[j * ks.length + i]? = ks[i]?
  | 0, j, i, h, _ => by omega
  | n + 1, 0, i, _, hi => by
    rw [List.replicate_succ, List.flatten_cons, Nat.zero_mul, Nat.zero_add, List.getElem?_append_left hi]
  | n + 1, j + 1, i, h, hi => by
    rw [List.replicate_succ, List.flatten_cons, List.getElem?_append_right (by rw [Nat.add_mul]; omega), Nat.add_mul, show j * ks.length + 1 * ks.length + i - ks.length = j * ks.length + i by omega]
    exact flat_get (by omega) hi

theorem eqF_arr {e : TypeId} {n : Nat} {isA : Bool} {ks : List Nat} (hu : P.underlying t = some (.array n e)) (he : PartT P d e isA ks) : EqF P (d + 1) t true (List.replicate n ks).flatten := fun w x y hx hy sx sy hk => by
  cases x <;> simp only [isAggV, Bool.false_eq_true] at hx
  cases y <;> simp only [isAggV, Bool.false_eq_true] at hy
  rename_i xs ys
  simp only [Value.cells] at sx sy hk ⊢
  have hl : (List.replicate n ks).flatten.length = n * ks.length := by simp
  rw [hl] at sx sy ⊢
  obtain ⟨i, hi⟩ : ∃ i, P.info? e = some i := by
    cases h : P.info? e with
    | none => have := he.size; simp [h] at this
    | some i => exact ⟨i, rfl⟩
  have hc : P.cellsOf e = ks.length := by have := he.size; simp [Program.cellsOf, hi] at this ⊢; exact this
  have bound : ∀ j, j < n → j * ks.length + ks.length ≤ n * ks.length := fun j hj => by
    rw [← Nat.succ_mul]; exact Nat.mul_le_mul_right _ hj
  obtain ⟨r, hr, hiff⟩ := run_eqItems' he (xs := xs) (ys := ys) w (List.range n) (fun j hj => by
    have hj' := List.mem_range.1 hj
    have := bound j hj'
    refine ⟨by omega, by omega, fun i k hik => ?_⟩
    have hil : i < ks.length := (List.getElem?_eq_some_iff.1 hik).1
    exact hk (j * ks.length + i) k (by rw [flat_get hj' hil]; exact hik))
  refine ⟨r, by rw [run_equalIn_array w d xs ys hu hi, hc]; exact hr, hiff.trans ⟨fun h q hq => ?_, fun h j hj i hi => ?_⟩⟩
  · have hpos : 0 < ks.length := by
      rcases Nat.eq_zero_or_pos ks.length with h0 | h0
      · rw [h0] at hq; omega
      · exact h0
    have h1 : q / ks.length < n := Nat.div_lt_of_lt_mul (by rw [Nat.mul_comm]; exact hq)
    have h2 := h (q / ks.length) (List.mem_range.2 h1) (q % ks.length) (Nat.mod_lt _ hpos)
    rw [Nat.div_add_mod' ] at h2
    exact h2
  · have := bound j (List.mem_range.1 hj)
    exact h _ (by omega)

def FieldsEq (P : Program) (d : Nat) : Nat → List Field → List Nat → Prop
  | _, [], ks => ks = []
  | off, f :: fs, ks => f.name ≠ "_" ∧ f.offset = off ∧ ∃ isA k1 k2, ks = k1 ++ k2 ∧ PartT P d f.type isA k1 ∧ FieldsEq P d (off + k1.length) fs k2

theorem run_eqFields' {xs ys : Array Value} (w : World) : ∀ (fs : List Field) (off : Nat) (ks : List Nat), FieldsEq P d off fs ks → off + ks.length ≤ xs.size → off + ks.length ≤ ys.size →
    (∀ (i k : Nat), ks[i]? = some k → ∃ u v, xs[off + i]? = some u ∧ ys[off + i]? = some v ∧ kdOk k u v) →
    ∃ r : Bool, (Op.eqFields d xs ys fs).run P w = .ok r w ∧ (r = true ↔ ∀ i, i < ks.length → xs[off + i]? = ys[off + i]?)
  | [], off, ks, h, _, _, _ => by
    simp only [FieldsEq] at h
    subst h
    exact ⟨true, by simp [Op.eqFields], by simp⟩
  | f :: fs, off, ks, h, hx, hy, hk => by
    obtain ⟨hn, ho, isA, k1, k2, rfl, hp, hrest⟩ := h
    simp only [List.length_append] at hx hy
    obtain ⟨a, b, r, p1, p2, p3, hiff⟩ := eq_step hp (xs := xs) (ys := ys) (off := off) (by omega) (by omega) (fun i k hik => by
      have hi : i < k1.length := (List.getElem?_eq_some_iff.1 hik).1
      exact hk i k (by rw [List.getElem?_append_left hi]; exact hik)) w
    obtain ⟨r', hr', hiff'⟩ := run_eqFields' (xs := xs) (ys := ys) w fs (off + k1.length) k2 hrest (by omega) (by omega) (fun i k hik => by
      have := hk (k1.length + i) k (by rw [List.getElem?_append_right (by omega)]; simpa using hik)
      rw [Nat.add_assoc]; exact this)
    subst ho
    simp only [Op.eqFields, hn, ne_eq, not_false_eq_true, if_true, Sem.run_bind, p1, p2, p3, Result.andThen_ok]
    cases r
    · refine ⟨false, by simp, ?_⟩
      simp only [Bool.false_eq_true, false_iff]
      intro e
      exact absurd (hiff.2 fun i hi => e i (by simp; omega)) (by simp)
    · refine ⟨r', by simpa using hr', ?_⟩
      rw [hiff']
      have := hiff.1 rfl
      simp only [List.length_append]
      constructor
      · intro e i hi
        by_cases h1 : i < k1.length
        · exact this i h1
        · have := e (i - k1.length) (by omega)
          rw [show f.offset + k1.length + (i - k1.length) = f.offset + i by omega] at this
          exact this
      · intro e i hi
        have := e (k1.length + i) (by omega)
        rw [Nat.add_assoc]; exact this

theorem eqF_struct {fs : Array Field} {ks : List Nat} (hu : P.underlying t = some (.struct fs)) (hp : P.stoodInHeld t = false) (hf : FieldsEq P d 0 fs.toList ks) : EqF P (d + 1) t true ks := fun w x y hx hy sx sy hk => by
  cases x <;> simp only [isAggV, Bool.false_eq_true] at hx
  cases y <;> simp only [isAggV, Bool.false_eq_true] at hy
  rename_i xs ys
  simp only [Value.cells] at sx sy hk ⊢
  have hfo : P.fieldsOf t = fs := by simp [Program.fieldsOf, hu]
  obtain ⟨r, hr, hiff⟩ := run_eqFields' (xs := xs) (ys := ys) w fs.toList 0 ks hf (by omega) (by omega) (fun i k hik => by
    have := hk i k hik
    simpa using this)
  refine ⟨r, ?_, by simpa using hiff⟩
  rw [run_equalIn_struct w d t xs ys (by rw [hfo]; exact hu) hp, hfo]
  exact hr

theorem EqF.val {isA : Bool} {ks : List Nat} (h : EqF P 10000 t isA ks) (hA : isA = true) (hg : P.eqGuardType P.depth t = false) {xs ys : Array Value} {r : Bool} (sx : xs.size = ks.length) (sy : ys.size = ks.length)
    (hk : ∀ (i k : Nat), ks[i]? = some k → ∃ u v, xs[i]? = some u ∧ ys[i]? = some v ∧ kdOk k u v) (hr : xs = ys ↔ r = true) : EqV P t (.agg xs) (.agg ys) r where
  h w := by
    subst hA
    obtain ⟨q, h1, h2⟩ := h w (.agg xs) (.agg ys) rfl rfl sx sy hk
    have : q = r := by
      rw [Bool.eq_iff_iff, h2, ← hr]
      simp only [Value.cells]
      constructor
      · intro e
        apply Array.ext_getElem?
        intro i
        by_cases hi : i < ks.length
        · exact e i hi
        · simp [show ¬ i < xs.size by omega, show ¬ i < ys.size by omega]
      · rintro rfl i _; rfl
    rw [h1, this]
  plain := hg
  agg := ⟨xs, ys, rfl, rfl⟩
end

end Go.Eng

/- Keys and prefixes as cells of this program. -/
namespace Go.Proofs.Ytklhkejhndnhbaa
open Go.Eng Go.Kb

instance (k : Key) : SizeIs (kcells k) 16 := ⟨kcells_size k, by
 rw [Array.all_eq_true_iff_forall_mem]; intro v hv
 simp only [kcells, List.mem_toArray, List.mem_map] at hv
 obtain ⟨i, _, rfl⟩ := hv; rfl⟩
instance (p : Pfx) : SizeIs (pcells p) 18 := ⟨pcells_size p, by
 have h : (kcells p.key).all (·.oneCell') = true := (inferInstance : SizeIs (kcells p.key) 16).one
 rw [pcells, Array.all_append, h]; simp [Value.oneCell']⟩
instance (p : Pfx) : CellAt (pcells p) 0 (.int .i64 p.bits) := ⟨pcells_0 p⟩
instance (p : Pfx) : CellAt (pcells p) 1 (.int .i64 p.len) := ⟨pcells_1 p⟩
instance (p : Pfx) : PartAt (pcells p) 2 16 (kcells p.key) := ⟨kcells_size _, fun j _ => pcells_k p j⟩

theorem part5 (d : Nat) : PartT Try.prog (d + 1) 5 false [0] := ⟨⟨_, Try.underlying5, rfl⟩, by kernel_rfl, fun _ => rfl, eqF_int Try.underlying5⟩
theorem part3 (d : Nat) : PartT Try.prog (d + 1) 3 false [0] := ⟨⟨_, Try.underlying3, rfl⟩, by kernel_rfl, fun _ => rfl, eqF_int Try.underlying3⟩
theorem partK (d : Nat) : PartT Try.prog (d + 1 + 1) 24 true (List.replicate 16 [0]).flatten := ⟨⟨_, Try.underlying24, rfl⟩, by kernel_rfl, (fun h => by cases h), eqF_arr Try.underlying24 (part5 d)⟩
theorem stoodX : Try.prog.stoodInHeld 55 = false := by kernel_rfl
theorem partX (d : Nat) : PartT Try.prog (d + 1 + 1 + 1) 55 true ([0] ++ ([0] ++ ((List.replicate 16 [0]).flatten ++ []))) := ⟨⟨_, Try.underlying55, rfl⟩, by kernel_rfl, (fun h => by cases h),
 eqF_struct Try.underlying55 stoodX ⟨by decide, rfl, _, _, _, rfl, part3 _, by decide, rfl, _, _, _, rfl, part3 _, by decide, rfl, _, _, _, rfl, partK _, rfl⟩⟩
theorem guardK : Try.prog.eqGuardType Try.prog.depth 24 = false := by kernel_rfl
theorem guardX : Try.prog.eqGuardType Try.prog.depth 55 = false := by kernel_rfl
instance (a b : Key) : EqV Try.prog 24 (.agg (kcells a)) (.agg (kcells b)) (decide (a = b)) :=
 (partK 9998).eq.val rfl guardK (kcells_size a) (kcells_size b) (fun i k hk => by
  have hi : i < 16 := (List.getElem?_eq_some_iff.1 hk).1
  have h0 : k = 0 := by
   have : k ∈ (List.replicate 16 [0]).flatten := List.mem_of_getElem? hk
   simpa using this
  subst h0
  exact ⟨_, _, kcells_get a i hi, kcells_get b i hi, rfl⟩) (by rw [decide_eq_true_iff]; exact ⟨kcells_inj, fun h => by rw [h]⟩)
instance (a b : Pfx) : EqV Try.prog 55 (.agg (pcells a)) (.agg (pcells b)) (decide (a = b)) :=
 (partX 9997).eq.val rfl guardX (pcells_size a) (pcells_size b) (fun i k hk => by
  have h0 : k = 0 := by
   have : k ∈ ([0] ++ ([0] ++ ((List.replicate 16 [0]).flatten ++ []))) := List.mem_of_getElem? hk
   simpa using this
  subst h0
  have hi : i < 18 := (List.getElem?_eq_some_iff.1 hk).1
  match i, hi with
  | 0, _ => exact ⟨_, _, pcells_0 a, pcells_0 b, rfl⟩
  | 1, _ => exact ⟨_, _, pcells_1 a, pcells_1 b, rfl⟩
  | j + 2, hi => rw [Nat.add_comm j 2]; exact ⟨_, _, (pcells_k a j).trans (kcells_get _ j (by omega)), (pcells_k b j).trans (kcells_get _ j (by omega)), rfl⟩) (by rw [decide_eq_true_iff]; exact ⟨pcells_inj, fun h => by rw [h]⟩)
theorem kcells_zero : kcells 0#128 = (List.replicate 16 (Value.int .u8 0)).toArray := by
 apply Array.ext'
 simp only [kcells]
 refine List.eq_replicate_iff.2 ⟨by simp, fun v hv => ?_⟩
 simp only [List.mem_map] at hv
 obtain ⟨i, _, rfl⟩ := hv
 simp [kbyte]
instance (n m : Int) (k : Key) : BuildT Try.prog 55 [(0, .int .i64 n), (1, .int .i64 m), (2, .agg (kcells k))] (.agg (pcells ⟨n, m, k⟩)) := ⟨fun w => by kernel_rfl⟩
instance : ZeroT Try.prog 24 (.agg (kcells 0#128)) := ⟨by rw [kcells_zero]; kernel_rfl⟩
instance : ZeroT Try.prog 55 (.agg (pcells ⟨0, 0, 0#128⟩)) := ⟨by unfold pcells; rw [kcells_zero]; kernel_rfl⟩

end Go.Proofs.Ytklhkejhndnhbaa

/- The functions of package key, walked. -/
namespace Go.Proofs.Ytklhkejhndnhbaa
open Go.Eng Go.Kb

theorem tab8 (s : ByteArray) (hs : (List.range 256).all (fun j => (s[j]?).map (·.toNat) == some (len8 j)) = true) (x : Nat) (hx : x < 256) : (s[(x : Int).toNat]?).map (·.toNat) = some (len8 x) := by
 have := List.all_eq_true.1 hs x (List.mem_range.2 hx)
 simpa using this
theorem fits_no {p : Pfx} {k : Key} {n : Nat} (h : ((decide ((n : Int) < p.len) && !decide (kbit p.key n = kbit k n)) || (decide (p.bits ≤ (n : Int)) && !decide (kbit k n = 0))) = false) :
  ((n : Int) < p.len → p.key.getMsbD n = k.getMsbD n) ∧ (p.bits ≤ (n : Int) → k.getMsbD n = false) := by
 simp only [Bool.or_eq_false_iff, Bool.and_eq_false_imp, decide_eq_true_eq, Bool.not_eq_false', kbit_same] at h
 refine ⟨h.1, fun hb => ?_⟩
 have := h.2 hb
 rw [kbit_nat] at this
 cases e : k.getMsbD n with
 | false => rfl
 | true => rw [e] at this; simp at this
theorem fits_yes {p : Pfx} {k : Key} {n : Nat} (h : ((decide ((n : Int) < p.len) && !decide (kbit p.key n = kbit k n)) || (decide (p.bits ≤ (n : Int)) && !decide (kbit k n = 0))) = true) :
  ¬ (((n : Int) < p.len → p.key.getMsbD n = k.getMsbD n) ∧ (p.bits ≤ (n : Int) → k.getMsbD n = false)) := by
 rintro ⟨h1, h2⟩
 simp only [Bool.or_eq_true, Bool.and_eq_true, decide_eq_true_eq, Bool.not_eq_true', decide_eq_false_iff_not, kbit_same] at h
 rcases h with ⟨h3, h4⟩ | ⟨h3, h4⟩
 ·
  exact h4 (h1 h3)
 ·
  refine h4 ?_
  rw [kbit_nat, h2 h3]; rfl

set_option maxRecDepth 20000 in
theorem kind_c (n : Int) : PureFn Try.prog 36 [.int .i64 n] (.bool (decide (n = 32) || decide (n = 128))) := ⟨fun w => by
 refine calls_of (args := [_]) Try.func36 rfl Try.ntmps36 rfl ?_
 change Cw _ _ _ _ _ [(0, .int .i64 n)] []
 refine cw_seq ?_
 refine cw_region ?_
 refine sq_r (ry_assign rfl) ?_
 refine sq_nil ?_
 refine ex_then ?_
 refine cw_seq ?_
 refine cw_region ?_
 refine sq_r (ry_move rfl) ?_
 refine sq_r (ry_int rfl rfl rfl) ?_
 refine sq_r (ry_move rfl) ?_
 refine sq_gf rfl rfl rfl (fun hg => (ry_move rfl).yl) ?_
 refine sq_gf rfl rfl rfl (fun hg => (ry_int (ev_c hg rfl) rfl rfl).yl) ?_
 refine sq_r (ry_or rfl rfl rfl) ?_
 refine sq_r (ry_assign rfl) ?_
 refine sq_nil ?_
 refine ex_then ?_
 refine cw_ret ?_
 refine ex_ret (.inl rfl) (res_tmp rfl rfl) (fun w hw => ?_)
 exact ⟨rfl, hw.sub (List.nil_sublist _)⟩⟩
instance kind_i (n : Int) : PureFn Try.prog 36 [.int .i64 n] (.bool (decide (n = 32) || decide (n = 128))) := kind_c n




theorem cut_whole (k : Key) (h : Nat) (hh : h ≤ 16) : over (kcells 0#128) 0 ((kcells k).extract 0 h) = kcells (kcut k ((8 * h : Nat) : Int)) := by
 refine eq_kcells (by simp [over, kcells_size]; omega) fun i hi => ?_
 have hl : ((kcells k).extract 0 h).size = h := by simp [kcells_size]; omega
 rw [kbyte_kcut k (8 * h) i hi]
 simp only [over, hl, List.take_zero, List.nil_append, Nat.zero_add, List.getElem?_toArray]
 by_cases h1 : i < h
 ·
  rw [List.getElem?_append_left (by simp [kcells_size]; omega), if_pos (by omega)]
  have := kcells_get k i hi
  simpa [h1] using this
 ·
  rw [List.getElem?_append_right (by simp [kcells_size]; omega), if_neg (by omega)]
  have h2 : (kcells 0#128)[i]? = some (.int .u8 ((0 : Nat) : Int)) := by rw [kcells_get _ i hi]; simp [kbyte]
  simp only [Array.length_toList, hl, List.getElem?_drop, show h + (i - h) = i by omega]
  rw [Array.getElem?_toList, h2]
  by_cases h3 : 8 * i ≤ 8 * h
  ·
   rw [if_pos h3, show 8 - (8 * h - 8 * i) = 8 by omega, Nat.div_eq_of_lt (kbyte_lt k i), Nat.zero_mul]
  ·
   rw [if_neg h3]
theorem andNot_byte (b r : Nat) (hb : b < 256) (hr : r ≤ 8) : intOp .andNot .u8 b ((255 / 2 ^ r : Nat) : Int) = some (.int .u8 ((b / 2 ^ (8 - r) * 2 ^ (8 - r) : Nat) : Int)) := by
 have hm : 255 / 2 ^ r < 256 := Nat.lt_of_le_of_lt (Nat.div_le_self _ _) (by omega)
 rw [intOp_andNot hb hm]
 have key : b &&& (256 - 1 - 255 / 2 ^ r) = b / 2 ^ (8 - r) * 2 ^ (8 - r) := by
  have e1 : 255 / 2 ^ r = 2 ^ (8 - r) - 1 := by
   match r, hr with
   | 0, _ | 1, _ | 2, _ | 3, _ | 4, _ | 5, _ | 6, _ | 7, _ | 8, _ => rfl
   | n + 9, h => omega
  rw [e1]
  apply Nat.eq_of_testBit_eq
  intro j
  have e2 : 256 - 1 - (2 ^ (8 - r) - 1) = 2 ^ 8 - (2 ^ (8 - r) - 1 + 1) := by omega
  rw [Nat.testBit_and, e2, Nat.testBit_two_pow_sub_succ (by have : 2 ^ (8 - r) ≤ 2 ^ 8 := Nat.pow_le_pow_right (by decide) (by omega); have := Nat.two_pow_pos (8 - r); omega), Nat.testBit_two_pow_sub_one, Nat.testBit_mul_two_pow, Nat.testBit_div_two_pow]
  by_cases hj : 8 - r ≤ j
  ·
   simp only [hj, show ¬ j < 8 - r by omega, decide_true, decide_false, Bool.not_false, Bool.and_true, Bool.true_and, show j - (8 - r) + (8 - r) = j by omega]
   by_cases h8 : j < 8
   ·
    simp [h8]
   ·
    have : b.testBit j = false := Nat.testBit_lt_two_pow (Nat.lt_of_lt_of_le hb (by have := Nat.pow_le_pow_right (n := 2) (by decide) (show 8 ≤ j by omega); simpa using this))
    simp [this]
  ·
   simp [hj, show j < 8 - r by omega]
 show some (Value.int .u8 ((b &&& (256 - 1 - 255 / 2 ^ r) : Nat) : Int)) = _
 rw [key]
theorem cut_part (k : Key) (n : Int) (h0 : 1 ≤ n) (h1 : n < 128) (h2 : 0 < n % 8) : (kcells (kcut k ((8 * (n / 8).toNat : Nat) : Int))).setIfInBounds (n / 8).toNat (.int .u8 ((kbyte k (n / 8).toNat / 2 ^ (8 - (n % 8).toNat) * 2 ^ (8 - (n % 8).toNat) : Nat) : Int)) = kcells (kcut k n) := by
 have hb := kbyte_lt k (n / 8).toNat
 rw [kcells_set _ _ _ (by omega) (Nat.lt_of_le_of_lt (Nat.div_mul_le_self _ _) hb)]
 congr 1
 refine key_ext_byte fun i hi => ?_
 rw [kbyte_kset _ _ _ i hi (Nat.lt_of_le_of_lt (Nat.div_mul_le_self _ _) hb), kbyte_kcut k _ i hi]
 have e : kcut k n = kcut k ((n.toNat : Nat) : Int) := by rw [Int.toNat_of_nonneg (by omega)]
 rw [e, kbyte_kcut k n.toNat i hi]
 by_cases hj : i = (n / 8).toNat
 ·
  rw [if_pos hj, if_neg (by omega), if_pos (by omega), hj, show n.toNat - 8 * (n / 8).toNat = (n % 8).toNat by omega]
 ·
  rw [if_neg hj]
  by_cases hlt : i < (n / 8).toNat
  ·
   rw [if_pos (by omega), if_pos (by omega)]
  ·
   rw [if_neg (by omega), if_neg (by omega), if_neg (by omega), if_neg (by omega)]
theorem cut_even (k : Key) (n : Int) (h0 : 1 ≤ n) (h2 : ¬ 0 < n % 8) : kcut k ((8 * (n / 8).toNat : Nat) : Int) = kcut k n := by
 congr 1; omega

set_option maxRecDepth 20000 in
theorem cut_c (k : Key) (n : Int) : PureFn Try.prog 25 [.agg (kcells k), .int .i64 n] (.agg (kcells (kcut k n))) := ⟨fun w => by
 refine calls_of (args := [_, _]) Try.func25 rfl Try.ntmps25 rfl ?_
 change Cw _ _ _ _ _ [(0, .agg (kcells k)), (1, .int .i64 n)] []
 refine cw_seq ?_
 refine cw_region ?_
 refine sq_boxA rfl fun b2 => ?_
 refine sq_allocA fun b4 => ?_
 refine sq_nil ?_
 refine ex_then ?_
 refine cw_seq ?_
 refine cw_seq ?_
 refine cw_region ?_
 refine sq_r (ry_move rfl) ?_
 refine sq_r (ry_int rfl rfl rfl) ?_
 refine sq_nil ?_
 refine ex_then ?_
 refine cw_cond rfl (fun h0 => ?_) (fun h0 => ?_)
 ·
  have h0 := of_decide_eq_true h0
  refine cw_seq ?_
  refine cw_region ?_
  refine sq_r (ry_whole rfl) ?_
  refine sq_storeW rfl rfl ?_
  refine sq_nil ?_
  refine ex_then ?_
  refine cw_ret ?_
  refine ex_pass_ret ?_
  refine ex_ret (.inl rfl) (res_cell rfl rfl) (fun w hw => ?_)
  exact ⟨by rw [kcut_all k n (by omega)], hw.sub (List.nil_sublist _)⟩
 ·
  have h0 := of_decide_eq_false h0
  refine cw_skip ?_
  refine ex_then ?_
  refine cw_seq ?_
  refine cw_region ?_
  refine sq_allocA fun b5 => ?_
  refine sq_nil ?_
  refine ex_then ?_
  refine cw_seq ?_
  refine cw_seq ?_
  refine cw_region ?_
  refine sq_r (ry_move rfl) ?_
  refine sq_r (ry_int rfl rfl rfl) ?_
  refine sq_nil ?_
  refine ex_then ?_
  refine cw_cond rfl (fun h1 => ?_) (fun h1 => ?_)
  ·
   have h1 := of_decide_eq_true h1
   refine cw_seq ?_
   refine cw_region ?_
   refine sq_r (ry_whole rfl) ?_
   refine sq_storeW rfl rfl ?_
   refine sq_nil ?_
   refine ex_then ?_
   refine cw_ret ?_
   refine ex_pass_ret ?_
   refine ex_ret (.inl rfl) (res_cell rfl rfl) (fun w hw => ?_)
   exact ⟨by rw [kcut_none k n (by omega)], hw.sub (List.nil_sublist _)⟩
  ·
   have h1 := of_decide_eq_false h1
   refine cw_skip ?_
   refine ex_then ?_
   refine cw_seq ?_
   refine cw_region ?_
   refine sq_r (ry_move rfl) ?_
   refine sq_r (ry_quo rfl rfl (by omega) (by omega)) ?_
   refine sq_r (ry_assign rfl) ?_
   refine sq_nil ?_
   refine ex_then ?_
   refine cw_seq ?_
   refine cw_tail 4 [] (by kernel_rfl) (by kernel_rfl) ?_
   simp only [List.take_succ_cons, List.take_zero]
   refine qt_r (ry_move rfl) ?_
   refine qt_r (ry_sliceA_hi rfl rfl (by omega) (by omega)) ?_
   refine qt_r (ry_move rfl) ?_
   refine qt_r (ry_sliceA_hi rfl rfl (by omega) (by omega)) ?_
   refine qt_end ?_
   refine fr_nil ?_
   simp only [List.drop_succ_cons, List.drop_zero]
   refine sq_copy (vs := (kcells k).extract 0 (n / 8).toNat) rfl rfl (by have e : Nat.min (n / 8).toNat (n / 8).toNat = (n / 8).toNat := Nat.min_self _; rw [e, Array.size_extract, kcells_size]; omega) (fun w hw j hj => by rw [Addr.add_none, hw.cell (Has.h (b := b2)), Nat.zero_add]; simp at hj; simp [hj]) (all_ext (SizeIs.one (cs := kcells k)) _ _) (by rw [Array.size_extract, kcells_size, kcells_size]; omega) (cut_whole k _ (by omega)) ?_
   refine sq_nil ?_
   refine ex_then ?_
   refine cw_seq ?_
   refine cw_seq ?_
   refine cw_region ?_
   refine sq_r (ry_move rfl) ?_
   refine sq_r (ry_rem rfl rfl (by omega) (by omega)) ?_
   refine sq_r (ry_assign rfl) ?_
   refine sq_nil ?_
   refine ex_then ?_
   refine cw_seq ?_
   refine cw_region ?_
   refine sq_r (ry_move rfl) ?_
   refine sq_r (ry_int rfl rfl rfl) ?_
   refine sq_nil ?_
   refine ex_then ?_
   refine cw_cond rfl (fun h2 => ?_) (fun h2 => ?_)
   ·
    have h2 := of_decide_eq_true h2
    refine cw_tail 8 [] (by kernel_rfl) (by kernel_rfl) ?_
    simp only [List.take_succ_cons, List.take_zero]
    refine qt_r (ry_move rfl) ?_
    refine qt_r (ry_move rfl) ?_
    refine qt_r (ry_idxA1 rfl rfl (by omega) (by omega)) ?_
    refine qt_r (ry_cell rfl (kcells_get _ _ (by omega))) ?_
    refine qt_r (ry_move rfl) ?_
    refine qt_r (ry_shr (p := 255) rfl rfl (by decide) (by omega)) ?_
    refine qt_r (ry_int rfl rfl (andNot_byte _ _ (kbyte_lt _ _) (by omega))) ?_
    refine qt_r (ry_idxA1 rfl rfl (by omega) (by omega)) ?_
    refine qt_end ?_
    refine fr_nil ?_
    simp only [List.drop_succ_cons, List.drop_zero]
    refine sq_store rfl rfl (by rw [kcells_size]; omega) rfl (cut_part k n (by omega) (by omega) h2) ?_
    refine sq_nil ?_
    refine ex_then ?_
    refine cw_seq ?_
    refine cw_region ?_
    refine sq_r (ry_whole rfl) ?_
    refine sq_storeW rfl rfl ?_
    refine sq_nil ?_
    refine ex_then ?_
    refine cw_ret ?_
    refine ex_ret (.inl rfl) (res_cell rfl rfl) (fun w hw => ?_)
    exact ⟨rfl, hw.sub (List.nil_sublist _)⟩
   ·
    have h2 := of_decide_eq_false h2
    refine cw_skip ?_
    refine ex_then ?_
    refine cw_seq ?_
    refine cw_region ?_
    refine sq_r (ry_whole rfl) ?_
    refine sq_storeW rfl rfl ?_
    refine sq_nil ?_
    refine ex_then ?_
    refine cw_ret ?_
    refine ex_ret (.inl rfl) (res_cell rfl rfl) (fun w hw => ?_)
    exact ⟨by rw [cut_even k n (by omega) h2], hw.sub (List.nil_sublist _)⟩⟩
instance cut_i (k : Key) (n : Int) : PureFn Try.prog 25 [.agg (kcells k), .int .i64 n] (.agg (kcells (kcut k n))) := cut_c k n


theorem cut_step_same (k : Key) (i : Int) (h : kbit k i ≠ 1) : kcut k (i + 1) = kcut k i := key_ext fun n hn => by
 rw [kcut_msb, kcut_msb]
 by_cases e : (n : Int) = i
 ·
  have : k.getMsbD n = false := by
   have h2 : kbit k (n : Int) = if k.getMsbD n then 1 else 0 := kbit_nat k n
   rw [e] at h2
   cases hb : k.getMsbD n with
   | false => rfl
   | true => rw [hb] at h2; exact absurd h2 h
  simp [this]
 ·
  have : ((n : Int) < i + 1) = ((n : Int) < i) := by rw [eq_iff_iff]; omega
  simp [this]
theorem pow_halves (r : Nat) (hr : r < 8) (b : Nat) : b / 2 ^ (7 - r) * 2 ^ (7 - r) = b / 2 ^ (8 - r) * 2 ^ (8 - r) + b / 2 ^ (7 - r) % 2 * 2 ^ (7 - r) := by
 rw [show 8 - r = (7 - r) + 1 by omega, Nat.pow_succ, ← Nat.div_div_eq_div_mul]
 generalize b / 2 ^ (7 - r) = q
 generalize 2 ^ (7 - r) = m
 rw [show q / 2 * (m * 2) = q / 2 * 2 * m by rw [Nat.mul_assoc, Nat.mul_comm m 2], ← Nat.add_mul]
 congr 1; omega
theorem cut_step_byte (k : Key) (i : Int) (h0 : 0 ≤ i) (h1 : i < 128) (h : kbit k i = 1) : kbyte (kcut k i) (i / 8).toNat + 2 ^ (7 - i % 8).toNat = kbyte (kcut k (i + 1)) (i / 8).toNat := by
 obtain ⟨m, rfl⟩ := Int.eq_ofNat_of_zero_le h0
 rw [show (m : Int) + 1 = ((m + 1 : Nat) : Int) by omega, kbyte_kcut k m _ (by omega), kbyte_kcut k (m + 1) _ (by omega)]
 rw [kbit_eq k _ h0 h1] at h
 have hb : kbyte k ((m : Int) / 8).toNat / 2 ^ (7 - (m : Int) % 8).toNat % 2 = 1 := by omega
 generalize hj : ((m : Int) / 8).toNat = j at *
 generalize hr : (7 - (m : Int) % 8).toNat = r at *
 have hp := pow_halves (7 - r) (by omega) (kbyte k j)
 rw [show 7 - (7 - r) = r by omega, show 8 - (7 - r) = r + 1 by omega, hb, Nat.one_mul] at hp
 rw [if_neg (by omega), if_pos (by omega), show 8 - (m - 8 * j) = r + 1 by omega, ← hp]
 by_cases h7 : 8 * j + 8 ≤ m + 1
 ·
  rw [if_pos h7, show r = 0 by omega, Nat.pow_zero, Nat.div_one, Nat.mul_one]
 ·
  rw [if_neg h7, if_pos (by omega), show 8 - (m + 1 - 8 * j) = r by omega]
theorem cut_step_set (k : Key) (i : Int) (h0 : 0 ≤ i) (h1 : i < 128) (h : kbit k i = 1) : (kcells (kcut k i)).setIfInBounds (i / 8).toNat (.int .u8 ((kbyte (kcut k i) (i / 8).toNat + 2 ^ (7 - i % 8).toNat : Nat) : Int)) = kcells (kcut k (i + 1)) := by
 rw [cut_step_byte k i h0 h1 h, kcells_set _ _ _ (by omega) (kbyte_lt _ _)]
 congr 1
 refine key_ext_byte fun n hn => ?_
 rw [kbyte_kset _ _ _ n hn (kbyte_lt _ _)]
 by_cases e : n = (i / 8).toNat
 ·
  rw [if_pos e, e]
 ·
  rw [if_neg e]
  obtain ⟨m, rfl⟩ := Int.eq_ofNat_of_zero_le h0
  rw [show (m : Int) + 1 = ((m + 1 : Nat) : Int) by omega, kbyte_kcut k m _ hn, kbyte_kcut k (m + 1) _ hn]
  by_cases h2 : 8 * n + 8 ≤ m
  ·
   rw [if_pos h2, if_pos (by omega)]
  ·
   have h3 : ¬ 8 * n ≤ m := fun h3 => e (by omega)
   rw [if_neg h2, if_neg h3, if_neg (show ¬ 8 * n + 8 ≤ m + 1 by omega)]
   by_cases h4 : 8 * n ≤ m + 1
   ·
    rw [if_pos h4, show 8 - (m + 1 - 8 * n) = 8 by omega, Nat.div_eq_of_lt (kbyte_lt k n), Nat.zero_mul]
   ·
    rw [if_neg h4]
theorem cut_end (k : Key) (n i : Int) (h0 : 0 ≤ i) (h1 : i ≤ 128) (h2 : i ≤ n ∨ i = 0) (h : ¬ (i < 128 ∧ i < n)) : kcut k i = kcut k n := by
 refine key_ext fun m hm => ?_
 rw [kcut_msb, kcut_msb]
 congr 1
 rw [decide_eq_decide]; omega
theorem pow_half (j : Int) (h0 : 0 ≤ j) (h : j < 8) : ((2 ^ (7 - j).toNat : Nat) : Int) / 2 = if j = 7 then 0 else ((2 ^ (7 - (j + 1)).toNat : Nat) : Int) := by
 have : (7 - j).toNat = 7 - j.toNat := by omega
 obtain ⟨m, rfl⟩ := Int.eq_ofNat_of_zero_le h0
 match m, h with
 | 0, _ | 1, _ | 2, _ | 3, _ | 4, _ | 5, _ | 6, _ | 7, _ => rfl




theorem lz8_aux (x : Nat) (hx : x < 256) : (8 : Int) - (len8 x : Int) = ((8 - len8 x : Nat) : Int) := by have := len8_le x hx; omega




set_option maxRecDepth 20000 in
theorem step_c (k : Key) (n : Int) : PureFn Try.prog 26 [.agg (kcells k), .int .i64 n] (.int .i64 (kstep k n)) := ⟨fun w => by
 refine calls_of (args := [_, _]) Try.func26 rfl Try.ntmps26 rfl ?_
 change Cw _ _ _ _ _ [(0, .agg (kcells k)), (1, .int .i64 n)] []
 refine cw_seq ?_
 refine cw_region ?_
 refine sq_boxA rfl fun b2 => ?_
 refine sq_r (ry_assign rfl) ?_
 refine sq_nil ?_
 refine ex_then ?_
 refine cw_seq ?_
 refine cw_seq ?_
 refine cw_region ?_
 refine sq_r (ry_move rfl) ?_
 refine sq_r (ry_int rfl rfl rfl) ?_
 refine sq_r (ry_move rfl) ?_
 refine sq_gf rfl rfl rfl (fun hg => (ry_move rfl).yl) ?_
 refine sq_gf rfl rfl rfl (fun hg => (ry_int (ev_c hg rfl) rfl rfl).yl) ?_
 refine sq_r (ry_or rfl rfl rfl) ?_
 refine sq_nil ?_
 refine ex_then ?_
 refine cw_cond rfl (fun h0 => ?_) (fun h0 => ?_)
 ·
  simp at h0
  refine cw_seq ?_
  refine cw_region ?_
  refine sq_r (ry_assign rfl) ?_
  refine sq_nil ?_
  refine ex_then ?_
  refine cw_ret ?_
  refine ex_pass_ret ?_
  refine ex_ret (.inl rfl) (res_tmp rfl rfl) (fun w hw => ?_)
  exact ⟨by rw [kstep_out k n (by omega)], hw.sub (List.nil_sublist _)⟩
 ·
  simp at h0
  refine cw_skip ?_
  refine ex_then ?_
  refine cw_seq ?_
  refine cw_region ?_
  refine sq_r (ry_move rfl) ?_
  refine sq_r (ry_quo rfl rfl (by omega) (by omega)) ?_
  refine sq_r (ry_idxA1 rfl rfl (by omega) (by omega)) ?_
  refine sq_r (ry_cell rfl (kcells_get _ _ (by omega))) ?_
  refine sq_r (ry_convn rfl (Nat.lt_of_lt_of_le (kbyte_lt _ _) (by decide))) ?_
  refine sq_r (ry_assign rfl) ?_
  refine sq_nil ?_
  refine ex_then ?_
  refine cw_seq ?_
  refine cw_seq ?_
  refine cw_region ?_
  refine sq_r (ry_move rfl) ?_
  refine sq_r (ry_rem rfl rfl (by omega) (by omega)) ?_
  refine sq_r (ry_int rfl rfl rfl) ?_
  refine sq_nil ?_
  refine ex_then ?_
  refine cw_cond rfl (fun h1 => ?_) (fun h1 => ?_)
  ·
   simp at h1
   refine cw_seq ?_
   refine cw_region ?_
   refine sq_r (ry_move rfl) ?_
   refine sq_r (ry_shr rfl rfl (Nat.lt_of_lt_of_le (kbyte_lt _ _) (by decide)) (by omega)) ?_
   refine sq_r (ry_assign rfl) ?_
   refine sq_nil ?_
   refine ex_then ?_
   refine cw_ret ?_
   refine ex_pass_ret ?_
   refine ex_ret (.inl rfl) (res_tmp rfl rfl) (fun w hw => ?_)
   exact ⟨by rw [kstep_even k n (by omega) (by omega) (by omega)]; rfl, hw.sub (List.nil_sublist _)⟩
  ·
   simp at h1
   refine cw_skip ?_
   refine ex_then ?_
   refine cw_seq ?_
   refine cw_region ?_
   refine sq_r (ry_move rfl) ?_
   refine sq_r (ry_band (q := 15) rfl rfl rfl rfl (Nat.lt_of_lt_of_le (kbyte_lt _ _) (by decide)) (by decide)) ?_
   refine sq_r (ry_assign rfl) ?_
   refine sq_nil ?_
   refine ex_then ?_
   refine cw_ret ?_
   refine ex_ret (.inl rfl) (res_tmp rfl rfl) (fun w hw => ?_)
   exact ⟨by rw [kstep_odd k n (by omega) (by omega) (by omega), ← Nat.and_two_pow_sub_one_eq_mod _ 4], hw.sub (List.nil_sublist _)⟩⟩
instance step_i (k : Key) (n : Int) : PureFn Try.prog 26 [.agg (kcells k), .int .i64 n] (.int .i64 (kstep k n)) := step_c k n


set_option maxRecDepth 20000 in
theorem may_c (p : Pfx) : PureFn Try.prog 18 [.agg (pcells p)] (.bool (pmay p)) := ⟨fun w => by
 refine calls_of (args := [_]) Try.func18 rfl Try.ntmps18 rfl ?_
 change Cw _ _ _ _ _ [(0, .agg (pcells p))] []
 refine cw_seq ?_
 refine cw_region ?_
 refine sq_boxA rfl fun b1 => ?_
 refine sq_r (ry_assign rfl) ?_
 refine sq_nil ?_
 refine ex_then ?_
 refine cw_seq ?_
 refine cw_seq ?_
 refine cw_region ?_
 refine sq_r (ry_field (o' := 0) rfl rfl) ?_
 refine sq_r (ry_cellc rfl) ?_
 refine sq_y (yl_pure rfl) ?_
 refine sq_r (ry_not rfl) ?_
 refine sq_r (ry_move rfl) ?_
 refine sq_gf rfl rfl rfl (fun hg => (ry_field (o' := 1) rfl rfl).yl) ?_
 refine sq_gf rfl rfl rfl (fun hg => (ry_cellc (ev_c hg rfl)).yl) ?_
 refine sq_gf rfl rfl rfl (fun hg => (ry_int (ev_c hg rfl) rfl rfl).yl) ?_
 refine sq_r (ry_or rfl rfl rfl) ?_
 refine sq_r (ry_move rfl) ?_
 refine sq_gf rfl rfl rfl (fun hg => (ry_field (o' := 1) rfl rfl).yl) ?_
 refine sq_gf rfl rfl rfl (fun hg => (ry_cellc (ev_c hg rfl)).yl) ?_
 refine sq_gf rfl rfl rfl (fun hg => (ry_field (o' := 0) rfl rfl).yl) ?_
 refine sq_gf rfl rfl rfl (fun hg => (ry_cellc (ev_c hg rfl)).yl) ?_
 refine sq_gf rfl rfl rfl (fun hg => (ry_int (ev_c hg rfl) (ev_c hg rfl) rfl).yl) ?_
 refine sq_r (ry_or rfl rfl rfl) ?_
 refine sq_nil ?_
 refine ex_then ?_
 refine cw_cond rfl (fun h0 => ?_) (fun h0 => ?_)
 ·
  refine cw_seq ?_
  refine cw_region ?_
  refine sq_r (ry_assign rfl) ?_
  refine sq_nil ?_
  refine ex_then ?_
  refine cw_ret ?_
  refine ex_pass_ret ?_
  refine ex_ret (.inl rfl) (res_tmp rfl rfl) (fun w hw => ?_)
  refine ⟨?_, hw.sub (List.nil_sublist _)⟩
  have : pmay p = false := by unfold pmay; simp at h0 ⊢; omega
  rw [this]
 ·
  refine cw_skip ?_
  refine ex_then ?_
  refine cw_seq ?_
  refine cw_quiet (by kernel_rfl) (by kernel_rfl) ?_
  refine qt_r (ry_field (o' := 2) rfl rfl) ?_
  refine qt_r (ry_part rfl) ?_
  refine qt_r (ry_field (o' := 1) rfl rfl) ?_
  refine qt_r (ry_cellc rfl) ?_
  refine qt_y (yl_pure rfl) ?_
  refine qt_r (ry_field (o' := 2) rfl rfl) ?_
  refine qt_r (ry_part rfl) ?_
  refine qt_r (ry_eq rfl rfl) ?_
  refine qt_r (ry_assign rfl) ?_
  refine qt_nil ?_
  refine ex_then ?_
  refine cw_ret ?_
  refine ex_ret (.inl rfl) (res_tmp rfl rfl) (fun w hw => ?_)
  refine ⟨?_, hw.sub (List.nil_sublist _)⟩
  congr 2; unfold pmay; simp at h0 ⊢; obtain ⟨⟨h1, h2⟩, h3⟩ := h0; simp [h2, h3, show p.bits = 32 ∨ p.bits = 128 by omega]⟩
instance may_i (p : Pfx) : PureFn Try.prog 18 [.agg (pcells p)] (.bool (pmay p)) := may_c p






end Go.Proofs.Ytklhkejhndnhbaa

/- bytes.Compare over two keys. -/
namespace Go.Proofs.Ytklhkejhndnhbaa
open Go.Eng Go.Kb
open Go.RowKit

def kints (k : Key) : List Int := (List.range 16).map fun i => (kbyte k i : Int)
theorem kints_get (k : Key) (j : Nat) (x : Int) (h : (kints k)[j]? = some x) : j < 16 ∧ x = kbyte k j := by
 have hl : j < 16 := by have := (List.getElem?_eq_some_iff.1 h).1; simpa [kints] using this
 refine ⟨hl, ?_⟩
 simp [kints, hl] at h
 exact h.symm
theorem cmpB_eq {x y : UInt8} {xs ys : List UInt8} : Lib.compareBytes (x :: xs) (y :: ys) = if x.toNat < y.toNat then -1 else if y.toNat < x.toNat then 1 else Lib.compareBytes xs ys := by
 simp [Lib.compareBytes, UInt8.lt_iff_toNat_lt]
theorem cmpB_key (a b : Key) : ∀ (n i : Nat), i + n = 16 → (∀ j, j < i → kbyte a j = kbyte b j) →
  Lib.compareBytes ((List.range' i n).map fun j => (kbyte a j).toUInt8) ((List.range' i n).map fun j => (kbyte b j).toUInt8) = kcmp a b
 | 0, i, hi, hs => by
  have : a = b := key_ext_byte fun j hj => hs j (by omega)
  subst this
  simp [Lib.compareBytes, kcmp]
 | n + 1, i, hi, hs => by
  have ha := kbyte_lt a i
  have hb := kbyte_lt b i
  rw [List.range'_succ, List.map_cons, List.map_cons, cmpB_eq]
  have ea : (kbyte a i).toUInt8.toNat = kbyte a i := by simp; omega
  have eb : (kbyte b i).toUInt8.toNat = kbyte b i := by simp; omega
  rw [ea, eb]
  by_cases h1 : kbyte a i < kbyte b i
  ·
   rw [if_pos h1]
   have := key_lt_of_byte (by omega) hs h1
   unfold kcmp; rw [if_pos this]
  ·
   rw [if_neg h1]
   by_cases h2 : kbyte b i < kbyte a i
   ·
    rw [if_pos h2]
    have := key_lt_of_byte (by omega) (fun j hj => (hs j hj).symm) h2
    unfold kcmp; rw [if_neg (by omega), if_pos this]
   ·
    rw [if_neg h2]
    exact cmpB_key a b n (i + 1) (by omega) fun j hj => by
     by_cases e : j = i
     ·
      subst e; omega
     ·
      exact hs j (by omega)
theorem bytesOf_kints (k : Key) : (⟨ByteArray.empty.data ++ (Lib.bytesOf (kints k)).toArray⟩ : ByteArray).data.toList = (List.range' 0 16).map fun j => (kbyte k j).toUInt8 := by
 simp [Lib.bytesOf, kints, List.range_eq_range']
theorem cmp_c (a b : Key) (p q : Addr) (c c' : Nat) (w : World) (hp : ∀ j, j < 16 → w.cell? (p.add j) = some (.int .u8 (kbyte a j))) (hq : ∀ j, j < 16 → w.cell? (q.add j) = some (.int .u8 (kbyte b j))) :
  Calls Try.prog 37 [.slice (some p) 16 c, .slice (some q) 16 c'].toArray w fun e w' => e = .returned (.int .i64 (kcmp a b)) ∧ Mem w [] w' := by
 refine calls_of (args := [_, _]) Try.func37 rfl Try.ntmps37 rfl ?_
 change Cw _ _ _ _ _ [(0, .slice (some p) 16 c), (1, .slice (some q) 16 c')] []
 refine cw_seq ?_
 refine cw_region ?_
 refine sq_r (ry_assign rfl) ?_
 refine sq_nil ?_
 refine ex_then ?_
 refine cw_seq ?_
 refine cw_region ?_
 refine sq_r (ry_move rfl) ?_
 refine sq_r (ry_move rfl) ?_
 refine sq_r (v := .int .i64 (kcmp a b)) ?_ ?_
 ·
  intro aa w1 ha hw
  have hpb : ∀ j, j < 16 → w1.cell? (p.add j) = some (.int .u8 (kbyte a j)) := fun j hj => by
   rw [← hp j hj]; exact hw.below.cell (block_lt_of_cell (hp j hj))
  have hqb : ∀ j, j < 16 → w1.cell? (q.add j) = some (.int .u8 (kbyte b j)) := fun j hj => by
   rw [← hq j hj]; exact hw.below.cell (block_lt_of_cell (hq j hj))
  have r1 := Lib.run_loadBytesX (P := Try.prog) w1 (kints a) p .empty (fun j x hx => by obtain ⟨h1, rfl⟩ := kints_get a j x hx; exact hpb j h1)
  have r2 := Lib.run_loadBytesX (P := Try.prog) w1 (kints b) q .empty (fun j x hx => by obtain ⟨h1, rfl⟩ := kints_get b j x hx; exact hqb j h1)
  have l1 : (kints a).length = 16 := by simp [kints]
  have l2 : (kints b).length = 16 := by simp [kints]
  rw [l1] at r1
  rw [l2] at r2
  have e5 := ha.ev (x := .tmp 5) (v := .slice (some p) 16 c) rfl
  have e6 := ha.ev (x := .tmp 6) (v := .slice (some q) 16 c') rfl
  have hrun : (callFunc 52 #[.slice (some p) 16 c, .slice (some q) 16 c']).run Try.prog w1 = .ok (.value (.int .i64 (kcmp a b))) w1 := by
   rw [run_callFunc_extern Try.func52 (by kernel_rfl) (by kernel_rfl) (by kernel_rfl) (e := Extern.BytealgCompare.compare) (by kernel_rfl)]
   have : (Extern.BytealgCompare.compare #[.slice (some p) 16 c, .slice (some q) 16 c']).run Try.prog w1 = .ok (.int .i64 (kcmp a b)) w1 := by
    change Sem.run Try.prog (do pure (goInt (Extern.BytealgCompare.cmp (← Extern.Bytes.bytesOf (.slice (some p) 16 c)) (← Extern.Bytes.bytesOf (.slice (some q) 16 c'))))) w1 = _
    simp only [Extern.Bytes.bytesOf, Sem.run_bind, r1, r2, Sem.run_pure, Result.andThen]
    rw [Lib.cmp_eq, bytesOf_kints, bytesOf_kints, cmpB_key a b 16 0 rfl (fun j h => by omega)]
    rfl
   rw [this]; rfl
  simp [execOp, resolve, Act.eval, Deferred.ofValue, invoke] at e5 e6 ⊢
  rw [e5, e6, hrun]
 refine sq_r (ry_assign rfl) ?_
 refine sq_nil ?_
 refine ex_then ?_
 refine cw_ret ?_
 refine ex_ret (.inl rfl) (res_tmp rfl rfl) (fun w hw => ?_)
 exact ⟨rfl, hw.sub (List.nil_sublist _)⟩

end Go.Proofs.Ytklhkejhndnhbaa

/- The order of prefixes, walked. -/
namespace Go.Proofs.Ytklhkejhndnhbaa
open Go.Eng Go.Kb
open Go.RowKit

theorem key_cell {w0 w : World} {L : List Ent} {b : Nat} {p : Pfx} {T : TypeId} {i : Nat} (hw : Mem w0 L w) [hh : Has L b (pcells p) T i] (j : Nat) (hj : j < 16) : w.cell? ((⟨b, 2, none⟩ : Addr).add j) = some (.int .u8 (kbyte p.key j)) := by
 rw [Addr.add_none, hw.cell hh.h, pcells_k, kcells_get _ j hj]
theorem bit_less {a b : Key} {n : Nat} (hn : n < 128) (hs : ∀ j, j < n → a.getMsbD j = b.getMsbD j) (hd : ¬ kbit a (n : Int) = kbit b (n : Int)) : kbit a (n : Int) = 0 ↔ a.toNat < b.toNat := by
 rw [kbit_same] at hd
 rw [kbit_nat]
 cases ha : a.getMsbD n <;> cases hb : b.getMsbD n <;> simp [ha, hb] at hd ⊢
 ·
  exact key_lt_of_bit hn hs ha hb
 ·
  have := key_lt_of_bit hn (fun j hj => (hs j hj).symm) hb ha
  omega
theorem pless_eq {p q : Pfx} (h1 : pmay p = true) (h2 : pmay q = true) : pless p q = (if p.bits ≠ q.bits then decide (p.bits = 32) else if p.key ≠ q.key then decide (p.key.toNat < q.key.toNat) else decide (p.len < q.len)) := by
 unfold pless; rw [h1, h2]; rfl

set_option maxRecDepth 20000 in
theorem less_c (p q : Pfx) : PureFn Try.prog 19 [.agg (pcells p), .agg (pcells q)] (.bool (pless p q)) := ⟨fun w => by
 refine calls_of (args := [_, _]) Try.func19 rfl Try.ntmps19 rfl ?_
 change Cw _ _ _ _ _ [(0, .agg (pcells p)), (1, .agg (pcells q))] []
 refine cw_seq ?_
 refine cw_region ?_
 refine sq_boxA rfl fun b2 => ?_
 refine sq_boxA rfl fun b3 => ?_
 refine sq_r (ry_assign rfl) ?_
 refine sq_nil ?_
 refine ex_then ?_
 refine cw_seq ?_
 refine cw_seq ?_
 refine cw_region ?_
 refine sq_r (ry_whole rfl) ?_
 refine sq_y (yl_pure rfl) ?_
 refine sq_r (ry_not rfl) ?_
 refine sq_r (ry_move rfl) ?_
 refine sq_gf rfl rfl rfl (fun hg => (ry_whole rfl).yl) ?_
 refine sq_gf rfl rfl rfl (fun hg => yl_pure (evl_cons (ev_c hg rfl) evl_nil)) ?_
 refine sq_gf rfl rfl rfl (fun hg => (ry_not (ev_c hg rfl)).yl) ?_
 refine sq_r (ry_or rfl rfl rfl) ?_
 refine sq_nil ?_
 refine ex_then ?_
 refine cw_cond rfl (fun h0 => ?_) (fun h0 => ?_)
 ·
  simp at h0
  refine cw_seq ?_
  refine cw_region ?_
  refine sq_r (ry_assign rfl) ?_
  refine sq_nil ?_
  refine ex_then ?_
  refine cw_ret ?_
  refine ex_pass_ret ?_
  refine ex_ret (.inl rfl) (res_tmp rfl rfl) (fun w hw => ?_)
  refine ⟨?_, hw.sub (List.nil_sublist _)⟩
  have : pless p q = false := by unfold pless; cases h1 : pmay p <;> cases h2 : pmay q <;> simp_all
  rw [this]
 ·
  simp at h0
  obtain ⟨m1, m2⟩ := h0
  refine cw_skip ?_
  refine ex_then ?_
  refine cw_seq ?_
  refine cw_seq ?_
  refine cw_region ?_
  refine sq_r (ry_field (o' := 0) rfl rfl) ?_
  refine sq_r (ry_cellc rfl) ?_
  refine sq_r (ry_field (o' := 0) rfl rfl) ?_
  refine sq_r (ry_cellc rfl) ?_
  refine sq_r (ry_int rfl rfl rfl) ?_
  refine sq_nil ?_
  refine ex_then ?_
  refine cw_cond rfl (fun h1 => ?_) (fun h1 => ?_)
  ·
   simp at h1
   refine cw_seq ?_
   refine cw_region ?_
   refine sq_r (ry_field (o' := 0) rfl rfl) ?_
   refine sq_r (ry_cellc rfl) ?_
   refine sq_r (ry_int rfl rfl rfl) ?_
   refine sq_r (ry_assign rfl) ?_
   refine sq_nil ?_
   refine ex_then ?_
   refine cw_ret ?_
   refine ex_pass_ret ?_
   refine ex_ret (.inl rfl) (res_tmp rfl rfl) (fun w hw => ?_)
   exact ⟨by rw [pless_eq m1 m2, if_pos h1], hw.sub (List.nil_sublist _)⟩
  ·
   simp at h1
   refine cw_skip ?_
   refine ex_then ?_
   refine cw_seq ?_
   refine cw_seq ?_
   refine cw_quiet (by kernel_rfl) (by kernel_rfl) ?_
   refine qt_r (ry_field (o' := 2) rfl rfl) ?_
   refine qt_r (ry_sliceA_all rfl) ?_
   refine qt_r (ry_field (o' := 2) rfl rfl) ?_
   refine qt_r (ry_sliceA_all rfl) ?_
   refine qt_y (yl_call rfl (fun w hw => cmp_c p.key q.key _ _ _ _ w (key_cell hw) (key_cell hw))) ?_
   refine qt_r (ry_assign rfl) ?_
   refine qt_nil ?_
   refine ex_then ?_
   refine cw_seq ?_
   refine cw_region ?_
   refine sq_r (ry_move rfl) ?_
   refine sq_r (ry_int rfl rfl rfl) ?_
   refine sq_nil ?_
   refine ex_then ?_
   refine cw_cond rfl (fun h2 => ?_) (fun h2 => ?_)
   ·
    simp at h2
    refine cw_seq ?_
    refine cw_region ?_
    refine sq_r (ry_move rfl) ?_
    refine sq_r (ry_int rfl rfl rfl) ?_
    refine sq_r (ry_assign rfl) ?_
    refine sq_nil ?_
    refine ex_then ?_
    refine cw_ret ?_
    refine ex_pass_ret ?_
    refine ex_ret (.inl rfl) (res_tmp rfl rfl) (fun w hw => ?_)
    exact ⟨by rw [pless_eq m1 m2, if_neg (by simpa using h1), if_pos (fun e => h2 ((kcmp_eq _ _).2 e)), decide_eq_decide.2 (kcmp_lt _ _)], hw.sub (List.nil_sublist _)⟩
   ·
    simp at h2
    refine cw_skip ?_
    refine ex_then ?_
    refine cw_seq ?_
    refine cw_region ?_
    refine sq_r (ry_field (o' := 1) rfl rfl) ?_
    refine sq_r (ry_cellc rfl) ?_
    refine sq_r (ry_field (o' := 1) rfl rfl) ?_
    refine sq_r (ry_cellc rfl) ?_
    refine sq_r (ry_int rfl rfl rfl) ?_
    refine sq_r (ry_assign rfl) ?_
    refine sq_nil ?_
    refine ex_then ?_
    refine cw_ret ?_
    refine ex_ret (.inl rfl) (res_tmp rfl rfl) (fun w hw => ?_)
    exact ⟨by rw [pless_eq m1 m2, if_neg (by simpa using h1), if_neg (by simpa using (kcmp_eq _ _).1 h2)], hw.sub (List.nil_sublist _)⟩⟩
instance less_i (p q : Pfx) : PureFn Try.prog 19 [.agg (pcells p), .agg (pcells q)] (.bool (pless p q)) := less_c p q


end Go.Proofs.Ytklhkejhndnhbaa

/- Routes, and tables of them: what is right of a table. No program in sight. -/
namespace Go.Kb

structure Rt where
  p : Pfx
  hop : UInt16
  deriving DecidableEq

def zroute : Rt := ⟨⟨0, 0, 0#128⟩, 0⟩
def rcells (r : Rt) : Array Value := pcells r.p ++ #[.int .u16 r.hop.toNat]
theorem rcells_size (r : Rt) : (rcells r).size = 19 := by unfold rcells; rw [Array.size_append, pcells_size]; rfl
theorem rcells_p (r : Rt) (j : Nat) (h : j < 18) : (rcells r)[j]? = (pcells r.p)[j]? := by
  unfold rcells; rw [Array.getElem?_append_left (by rw [pcells_size]; exact h)]
theorem rcells_hop (r : Rt) : (rcells r)[18]? = some (.int .u16 r.hop.toNat) := by
  unfold rcells; rw [Array.getElem?_append_right (by rw [pcells_size]; omega), pcells_size]; rfl

def okAt (xs : List Rt) (i : Nat) : Bool := match xs[i]? with
  | none => true
  | some r => pmay r.p && match i with
    | 0 => true
    | j + 1 => match xs[j]? with
      | none => true
      | some q => pless q.p r.p
def okTo (xs : List Rt) (n : Nat) : Bool := (List.range n).all (okAt xs)
def tright (xs : List Rt) : Bool := decide (xs.length ≤ 256) && okTo xs xs.length
theorem okTo_zero (xs : List Rt) : okTo xs 0 = true := rfl
theorem okTo_succ (xs : List Rt) (n : Nat) : okTo xs (n + 1) = (okTo xs n && okAt xs n) := by
  simp [okTo, List.range_succ]
theorem tright_long {xs : List Rt} (h : 256 < xs.length) : tright xs = false := by
  simp [tright]; omega
theorem tright_no {xs : List Rt} {i : Nat} (hi : i < xs.length) (h : okAt xs i = false) : tright xs = false := by
  have : okTo xs xs.length = false := by
    rw [okTo, List.all_eq_false]
    exact ⟨i, List.mem_range.2 hi, by simp [h]⟩
  simp [tright, this]
theorem tright_all {xs : List Rt} (h : xs.length ≤ 256) (ho : okTo xs xs.length = true) : tright xs = true := by simp [tright, h, ho]
theorem okAt_may {xs : List Rt} {i : Nat} {r : Rt} (hi : xs[i]? = some r) (h : pmay r.p = false) : okAt xs i = false := by simp [okAt, hi, h]
theorem okAt_zero {xs : List Rt} {r : Rt} (hi : xs[0]? = some r) : okAt xs 0 = pmay r.p := by simp [okAt, hi]
theorem okAt_succ {xs : List Rt} {i : Nat} {q r : Rt} (hi : xs[i + 1]? = some r) (hq : xs[i]? = some q) : okAt xs (i + 1) = (pmay r.p && pless q.p r.p) := by simp [okAt, hi, hq]
theorem okAt_pos {xs : List Rt} {i : Nat} {q r : Rt} (h0 : 0 < i) (hi : xs[i]? = some r) (hq : xs[i - 1]? = some q) : okAt xs i = (pmay r.p && pless q.p r.p) := by
  obtain ⟨j, rfl⟩ : ∃ j, i = j + 1 := ⟨i - 1, by omega⟩
  exact okAt_succ hi (by simpa using hq)
theorem okAt_eq {xs : List Rt} {i : Nat} {q r : Rt} (hi : xs[i]? = some r) (hq : xs[i - 1]? = some q) : okAt xs i = (pmay r.p && !(decide (0 < (i : Int)) && !pless q.p r.p)) := by
  rcases Nat.eq_zero_or_pos i with h | h
  · subst h; rw [okAt_zero hi]; simp
  · rw [okAt_pos h hi hq]; simp [h]
theorem okAt_eq' {xs : List Rt} {i : Nat} {q r : Rt} (hi : xs[i]? = some r) (hq : xs[i - 1]? = some q) : okAt xs i = !(!pmay r.p || (decide (0 < (i : Int)) && !pless q.p r.p)) := by
  rw [okAt_eq hi hq]; cases pmay r.p <;> simp
theorem and_r {c g : Bool} (h : (c && g) = true) : g = true := by cases c <;> simp_all
theorem get_some {α : Type} {xs : List α} {i : Nat} (h : i < xs.length) : ∃ r, xs[i]? = some r := ⟨xs[i], by simp [h]⟩

theorem rcells_inj {a b : Rt} (h : rcells a = rcells b) : a = b := by
  have hp : pcells a.p = pcells b.p := Array.ext_getElem? fun j => by
    rcases Nat.lt_or_ge j 18 with hj | hj
    · rw [← rcells_p a j hj, ← rcells_p b j hj, h]
    · rw [Array.getElem?_eq_none (by rw [pcells_size]; exact hj), Array.getElem?_eq_none (by rw [pcells_size]; exact hj)]
  have hh := rcells_hop a
  rw [h, rcells_hop b] at hh
  have e1 : b.hop = a.hop := by
    apply UInt16.toNat_inj.1
    simp only [Option.some.injEq, Value.int.injEq, true_and] at hh
    omega
  obtain ⟨p, q⟩ := a
  obtain ⟨p', q'⟩ := b
  simp only at e1 hp
  rw [pcells_inj hp, e1]

theorem list_no {α : Type} {xs ys : List α} {i : Nat} {a b : α} (ha : xs[i]? = some a) (hb : ys[i]? = some b) (h : ¬ a = b) : ¬ xs = ys := fun e => by
  rw [e, hb] at ha; exact h (Option.some.inj ha).symm
theorem list_all {α : Type} {xs ys : List α} (hl : xs.length = ys.length) (h : ∀ j, j < xs.length → xs[j]? = ys[j]?) : xs = ys := List.ext_getElem? fun j => by
  rcases Nat.lt_or_ge j xs.length with hj | hj
  · exact h j hj
  · rw [List.getElem?_eq_none hj, List.getElem?_eq_none (by omega)]

end Go.Kb

/- Slices and routes as cells of this program. -/
namespace Go.Proofs.Ytklhkejhndnhbaa
open Go.Eng Go.Kb
instance zsT22 : ZeroT Try.prog 22 (.slice none 0 0) := ⟨by kernel_rfl⟩
instance slT22 : SlT Try.prog 22 57 19 40 := ⟨Try.underlying22, by kernel_rfl⟩
instance zsT27 : ZeroT Try.prog 27 (.slice none 0 0) := ⟨by kernel_rfl⟩
instance slT27 : SlT Try.prog 27 80 48 384 := ⟨Try.underlying27, by kernel_rfl⟩
instance zsT33 : ZeroT Try.prog 33 (.slice none 0 0) := ⟨by kernel_rfl⟩
instance slT33 : SlT Try.prog 33 49 1 24 := ⟨Try.underlying33, by kernel_rfl⟩
instance zsT36 : ZeroT Try.prog 36 (.slice none 0 0) := ⟨by kernel_rfl⟩
instance slT36 : SlT Try.prog 36 3 1 8 := ⟨Try.underlying36, by kernel_rfl⟩
instance zsT38 : ZeroT Try.prog 38 (.slice none 0 0) := ⟨by kernel_rfl⟩
instance slT38 : SlT Try.prog 38 51 2 32 := ⟨Try.underlying38, by kernel_rfl⟩
instance zsT49 : ZeroT Try.prog 49 (.slice none 0 0) := ⟨by kernel_rfl⟩
instance slT49 : SlT Try.prog 49 5 1 1 := ⟨Try.underlying49, by kernel_rfl⟩
instance zsT53 : ZeroT Try.prog 53 (.slice none 0 0) := ⟨by kernel_rfl⟩
instance slT53 : SlT Try.prog 53 24 16 16 := ⟨Try.underlying53, by kernel_rfl⟩
instance : Enc rcells 19 := ⟨rcells_size, fun r => by
 have h : (pcells r.p).all (·.oneCell') = true := (inferInstance : SizeIs (pcells r.p) 18).one
 rw [rcells, Array.all_append, h]; simp [Value.oneCell']⟩
instance : Deep Rt := Deep.flat rcells 19
instance : FlatT Rt rcells 19 := ⟨rfl, fun _ => rfl⟩
instance (r : Rt) : SizeIs (rcells r) 19 := ⟨rcells_size r, Enc.one r⟩
instance (r : Rt) : PartAt (rcells r) 0 18 (pcells r.p) := ⟨pcells_size _, fun j hj => by rw [Nat.zero_add]; exact rcells_p r j hj⟩
instance (r : Rt) : CellAt (rcells r) 18 (.int .u16 r.hop.toNat) := ⟨rcells_hop r⟩
instance (r : Rt) : CellAt (rcells r) 0 (.int .i64 r.p.bits) := ⟨(rcells_p r 0 (by decide)).trans (pcells_0 r.p)⟩
instance (r : Rt) : CellAt (rcells r) 1 (.int .i64 r.p.len) := ⟨(rcells_p r 1 (by decide)).trans (pcells_1 r.p)⟩
instance (r : Rt) : PartAt (rcells r) 2 16 (kcells r.p.key) := ⟨kcells_size _, fun j hj => (rcells_p r (2 + j) (by omega)).trans (pcells_k r.p j)⟩
theorem part22 (d : Nat) : PartT Try.prog (d + 1) 43 false [0] := ⟨⟨_, Try.underlying43, rfl⟩, by kernel_rfl, fun _ => rfl, eqF_int Try.underlying43⟩
theorem stoodR : Try.prog.stoodInHeld 57 = false := by kernel_rfl
theorem partR (d : Nat) : PartT Try.prog (d + 1 + 1 + 1 + 1) 57 true (([0] ++ ([0] ++ ((List.replicate 16 [0]).flatten ++ []))) ++ ([0] ++ [])) := ⟨⟨_, Try.underlying57, rfl⟩, by kernel_rfl, (fun h => by cases h),
 eqF_struct Try.underlying57 stoodR ⟨by decide, rfl, _, _, _, rfl, partX _, by decide, rfl, _, _, _, rfl, part22 _, rfl⟩⟩
theorem guardR : Try.prog.eqGuardType Try.prog.depth 57 = false := by kernel_rfl
instance (a b : Rt) : EqV Try.prog 57 (.agg (rcells a)) (.agg (rcells b)) (decide (a = b)) :=
 (partR 9996).eq.val rfl guardR (rcells_size a) (rcells_size b) (fun i k hk => by
  have h0 : k = 0 := by
   have : k ∈ (([0] ++ ([0] ++ ((List.replicate 16 [0]).flatten ++ []))) ++ ([0] ++ [])) := List.mem_of_getElem? hk
   simpa using this
  subst h0
  have hi : i < 19 := (List.getElem?_eq_some_iff.1 hk).1
  match i, hi with
  | 0, _ => exact ⟨_, _, (inferInstance : CellAt (rcells a) 0 _).h, (inferInstance : CellAt (rcells b) 0 _).h, rfl⟩
  | 1, _ => exact ⟨_, _, (inferInstance : CellAt (rcells a) 1 _).h, (inferInstance : CellAt (rcells b) 1 _).h, rfl⟩
  | j + 2, hi =>
   rcases Nat.lt_or_ge j 16 with h | h
   ·
    rw [Nat.add_comm j 2]
    exact ⟨_, _, (rcells_p a _ (by omega)).trans ((pcells_k a.p j).trans (kcells_get _ j h)), (rcells_p b _ (by omega)).trans ((pcells_k b.p j).trans (kcells_get _ j h)), rfl⟩
   ·
    obtain rfl : j = 16 := by omega
    exact ⟨_, _, rcells_hop a, rcells_hop b, rfl⟩) (by rw [decide_eq_true_iff]; exact ⟨rcells_inj, fun h => by rw [h]⟩)
instance : BuildT Try.prog 57 [] (.agg (rcells zroute)) := ⟨fun w => by unfold rcells pcells zroute; rw [kcells_zero]; kernel_rfl⟩
instance : BuildT Try.prog 55 [] (.agg (pcells ⟨0, 0, 0#128⟩)) := ⟨fun w => by unfold pcells; rw [kcells_zero]; kernel_rfl⟩
instance (n m : Int) : BuildT Try.prog 55 [(0, .int .i64 n), (1, .int .i64 m)] (.agg (pcells ⟨n, m, 0#128⟩)) := ⟨fun w => by unfold pcells; rw [kcells_zero]; kernel_rfl⟩
instance (p : Pfx) (h : UInt16) : BuildT Try.prog 57 [(0, .agg (pcells p)), (1, .int .u16 h.toNat)] (.agg (rcells ⟨p, h⟩)) := ⟨fun w => by kernel_rfl⟩
instance : ZeroT Try.prog 57 (.agg (rcells zroute)) := ⟨by unfold rcells pcells zroute; rw [kcells_zero]; kernel_rfl⟩

end Go.Proofs.Ytklhkejhndnhbaa

/- The types that reach memory. -/
namespace Go.Kb
open Go.Eng

structure It where
  id : Int
  body : Sl UInt8
def icells (x : It) : Array Value := #[.int .i64 x.id, x.body.sv.val]
instance : Enc icells 2 := ⟨fun _ => rfl, fun x => by
  have h1 : (Value.int .i64 x.id).oneCell' = true := rfl
  simp only [icells, List.all_toArray, List.all_cons, List.all_nil, Sv.one, h1, Bool.and_self]⟩
instance (x : It) : CellAt (icells x) 0 (.int .i64 x.id) := ⟨rfl⟩
instance (x : It) : CellAt (icells x) 1 x.body.sv.val := ⟨rfl⟩
instance : Deep It where
  c := 2
  cells := icells
  size := Enc.size
  one := Enc.one
  good h x := Deep.good h x.body
  ent x := Deep.ent x.body
  good_of h x hs := Deep.good_of h x.body hs
  mono w w' x := Deep.mono w w' x.body
instance : FlatT It icells 2 := ⟨rfl, fun _ => rfl⟩
instance {w0 : World} {L : List Ent} {x : It} [q : HdD w0 L x] : HdD w0 L x.body := ⟨q.h⟩
instance {L R : List Ent} {x : It} [k : Take L x.body R] : Take L x R := ⟨k.h⟩
instance {L R : List Ent} {i : Int} {b : Sl UInt8} [k : Take L b R] : Take L (It.mk i b) R := ⟨k.h⟩
def its (a : Sl It) : List (Int × List UInt8) := a.xs.map fun x => (x.id, x.body.xs)
end Go.Kb

/- Arguments of this program, opened. -/
namespace Go.Proofs.Ytklhkejhndnhbaa
open Go.Eng Go.Kb
instance op2 : OpenT Try.prog 2 Int := open_i64 Try.underlying2 (by kernel_rfl)
instance op3 : OpenT Try.prog 3 Int := open_i64 Try.underlying3 (by kernel_rfl)
instance op4 : OpenT Try.prog 4 Bool := open_bool Try.underlying4 (by kernel_rfl)
instance op5 : OpenT Try.prog 5 UInt8 := open_u8 Try.underlying5 (by kernel_rfl)
instance op6 : OpenT Try.prog 6 UInt8 := open_u8 Try.underlying6 (by kernel_rfl)
instance op30 : OpenT Try.prog 30 Int := open_i64 Try.underlying30 (by kernel_rfl)
instance op43 : OpenT Try.prog 43 UInt16 := open_u16 Try.underlying43 (by kernel_rfl)
instance op130 : OpenT Try.prog 130 UInt8 := open_u8 Try.underlying130 (by kernel_rfl)
instance op131 : OpenT Try.prog 131 UInt8 := open_u8 Try.underlying131 (by kernel_rfl)

instance : Enc kcells 16 := ⟨kcells_size, fun k => (inferInstance : SizeIs (kcells k) 16).one⟩
instance : Deep Key := Deep.flat kcells 16
instance : FlatT Key kcells 16 := ⟨rfl, fun _ => rfl⟩
instance : Plain Key := ⟨fun _ => rfl⟩
instance : Enc pcells 18 := ⟨pcells_size, fun k => (inferInstance : SizeIs (pcells k) 18).one⟩
instance : Deep Pfx := Deep.flat pcells 18
instance : FlatT Pfx pcells 18 := ⟨rfl, fun _ => rfl⟩
instance : Plain Pfx := ⟨fun _ => rfl⟩
instance : Plain Rt := ⟨fun _ => rfl⟩
instance op24 : OpenT Try.prog 24 Key := ⟨by kernel_rfl, fun h hw => by
  obtain ⟨hl, he⟩ := open_elem Try.underlying24 h hw UInt8
  rw [show Try.prog.cellsOf 24 = 16 from by kernel_rfl] at hl
  obtain ⟨l, hll, hlp⟩ := list_of (p := fun i (x : UInt8) => _) he
  refine ⟨kof fun i => (l.getD i 0).toNat, ?_, trivial⟩
  refine List.ext_getElem? fun i => ?_
  rw [Array.getElem?_toList]
  rcases Nat.lt_or_ge i 16 with hi | hi
  · have hx : l[i]? = some (l.getD i 0) := get_getD (by omega)
    have h1 := congrArg (·[0]?) (hlp i _ hx).1
    simp only [List.getElem?_take, List.getElem?_drop] at h1
    rw [if_pos (by decide), show i * Deep.c UInt8 + 0 = i from Nat.mul_one i] at h1
    have h3 : some (Value.int .u8 (l.getD i 0).toNat) = _ := h1
    have e8 : (l.getD i 0).toNat % 2 ^ 8 = (l.getD i 0).toNat := Nat.mod_eq_of_lt (l.getD i 0).toNat_lt
    show (kcells _)[i]? = _
    rw [kcells_get _ _ hi, kbyte_kof _ _ hi, e8, ← h3]
  · show (kcells _)[i]? = _
    rw [kcells_none _ _ hi, List.getElem?_eq_none (by omega)]⟩
instance op55 : OpenT Try.prog 55 Pfx := ⟨by kernel_rfl, fun h hw => by
  obtain ⟨hl, x0, h0, -⟩ := open_field Try.underlying55 h hw (i := 0) (tf := 3) (off := 0) rfl Int
  obtain ⟨-, x1, h1, -⟩ := open_field Try.underlying55 h hw (i := 1) (tf := 3) (off := 1) rfl Int
  obtain ⟨-, x2, h2, -⟩ := open_field Try.underlying55 h hw (i := 2) (tf := 24) (off := 2) rfl Key
  refine ⟨⟨x0, x1, x2⟩, ?_, trivial⟩
  refine Eq.trans ?_ (cut3 (a := 1) (b := 1) (c := 16) (hl.trans (by kernel_rfl)))
  rw [show (Deep.cells (⟨x0, x1, x2⟩ : Pfx)).toList = (Deep.cells x0).toList ++ (Deep.cells x1).toList ++ (Deep.cells x2).toList from by show (pcells _).toList = _; unfold pcells; rw [Array.toList_append]; rfl, h0, h1, h2]
  rfl⟩
instance op57 : OpenT Try.prog 57 Rt := ⟨by kernel_rfl, fun h hw => by
  obtain ⟨hl, x0, h0, -⟩ := open_field Try.underlying57 h hw (i := 0) (tf := 55) (off := 0) rfl Pfx
  obtain ⟨-, x1, h1, -⟩ := open_field Try.underlying57 h hw (i := 1) (tf := 43) (off := 18) rfl UInt16
  refine ⟨⟨x0, x1⟩, ?_, trivial⟩
  refine Eq.trans ?_ (cut2 (a := 18) (b := 1) (hl.trans (by kernel_rfl)))
  rw [show (Deep.cells (⟨x0, x1⟩ : Rt)).toList = (Deep.cells x0).toList ++ (Deep.cells x1).toList from by show (rcells _).toList = _; unfold rcells; rw [Array.toList_append]; rfl, h0, h1]
  rfl⟩


instance op22 : OpenT Try.prog 22 (Sl Rt) := open_sl Try.underlying22 (by kernel_rfl) (by decide) (by kernel_rfl)
instance op36 : OpenT Try.prog 36 (Sl Int) := open_sl Try.underlying36 (by kernel_rfl) (by decide) (by kernel_rfl)
instance op49 : OpenT Try.prog 49 (Sl UInt8) := open_sl Try.underlying49 (by kernel_rfl) (by decide) (by kernel_rfl)
instance op53 : OpenT Try.prog 53 (Sl Key) := open_sl Try.underlying53 (by kernel_rfl) (by decide) (by kernel_rfl)
instance op33 : OpenT Try.prog 33 (Sl (Sl UInt8)) := open_sl Try.underlying33 (by kernel_rfl) (by decide) (by kernel_rfl)

end Go.Proofs.Ytklhkejhndnhbaa

/- A region that draws its order, told in one line: operations that only read and yield stand wherever; what makes or writes memory goes one behind the other. -/
namespace Go.Eng
structure Mkr where
  X : Type
  v : X → Value
  e : X → Ent
section
variable {P : Program} {l : List Oper} {Q : Exit → Act → World → Prop} {fs : List Nat} {mk : Nat → Mkr} {w0 : World}

def Makes (P : Program) (o : Oper) (ρ : Operand → Value) (m : Mkr) : Prop := ∀ (w0 w : World) (L : List Ent), Mem w0 L w → ∃ (x : m.X) (w' : World), (execOp ρ o).run P w = .ok (.value (m.v x)) w' ∧ Mem w0 (m.e x :: L) w'
def upon (P : Program) (w : World) (R : Value → World → Prop) : Result Next → Prop
  | .ok (.value v) w' => R v w'
  | .ok .skip w' => R undef w'
  | .ok (.enter f args) w' => w' = w ∧ Calls P f args w fun e w'' => ∃ v, e = .returned v ∧ R v w''
  | _ => False

def Lin (P : Program) (l : List Oper) (fs : List Nat) (mk : Nat → Mkr) (Q : Exit → Act → World → Prop) (w0 : World) : List Nat → Act → List Ent → List Ent → Prop
  | [], af, L, _ => ∀ w, Mem w0 L w → Q .normal af w
  | k :: ord, af, L, Lq => ∃ o, l[k]? = some o ∧ (if fs.contains k = true then (∀ i ∈ ord, fs.contains (i + 2000) = true → ∃ oi, l[i]? = some oi ∧ oi.guard = none ∧ Makes P oi af.eval (mk i)) ∧ (if fs.contains (k + 2000) = true then
      o.guard = none ∧ Makes P o af.eval (mk k) ∧ ∀ x : (mk k).X, Lin P l fs mk Q w0 ord (af.put o.dst ((mk k).v x)) ((mk k).e x :: L) Lq
    else
      Region.wanted o (yielded l.toArray af.tmps) = true ∧ (∀ w, Mem w0 L w → upon P w (fun v w' => ∃ L' Lq', Mem w0 L' w' ∧ (∀ w, Mem w0 L' w → Mem w0 Lq' w) ∧ (∀ w, Mem w0 Lq' w → Mem w0 Lq w) ∧ (fs.contains (k + 5000) = true → ∀ w, Mem w0 L' w → Mem w0 L w) ∧ Lin P l fs mk Q w0 ord (af.put o.dst v) L' Lq') ((execOp af.eval o).run P w)) ∧
      (fs.contains (k + 4000) = true → ∀ e w, Mem w0 (e :: L) w → upon P w (fun v w' => ∃ L' Lq', Mem w0 (e :: L') w' ∧ (∀ w, Mem w0 L' w → Mem w0 Lq' w) ∧ (∀ w, Mem w0 Lq' w → Mem w0 Lq w) ∧ (fs.contains (k + 5000) = true → ∀ w, Mem w0 L' w → Mem w0 L w) ∧ Lin P l fs mk Q w0 ord (af.put o.dst v) L' Lq') ((execOp af.eval o).run P w)))
    else ∃ v, (Region.wanted o (yielded l.toArray af.tmps) = true → quietR P o af (Mem w0 (if fs.contains (k + 1000) = true then L else Lq)) v) ∧ (Region.wanted o (yielded l.toArray af.tmps) = false → v = undef) ∧ Lin P l fs mk Q w0 ord (af.put o.dst v) L Lq)

def deps (o : Oper) : List Nat := (o.after.toList.filter fun e => Region.binds .any e).map (·.on)

def linOp (l : List Oper) (fs : List Nat) (A : List (List Nat)) (prev seen : List Nat) (k : Nat) (o : Oper) : Bool :=
  (!fs.contains k || fs.contains (k + 2000) || fs.contains (k + 5000) || (prev.all fun j => !fs.contains (j + 1000) || (A.getD k []).contains j)) &&
  (match o.op with | .select .. => false | _ => true) &&
  ((deps o).all fun j => decide (j < k)) &&
  (fs.contains (k + 2000) || seen.all fun f => (A.getD k []).contains f) &&
  ((A.getD k []).all fun f => (deps o).any fun j => j == f || (A.getD j []).contains f) &&
  ((List.range l.length).all fun j => match dstAt l j with
    | none => true
    | some d => (!(o.looksAt l.toArray).contains d || (prev.contains j && (deps o).contains j && (!fs.contains (k + 2000) || !fs.contains j))) && (j == k || o.dst != some d))
def linGo (l : List Oper) (fs : List Nat) (A : List (List Nat)) : List Nat → List Nat → List Nat → Bool
  | _, _, [] => true
  | prev, seen, k :: ord => (match l[k]? with | none => false | some o => linOp l fs A prev seen k o) && (!fs.contains k || fs.contains (k + 2000) || (ord.all fun j => !fs.contains (j + 2000)) || (fs.contains (k + 4000) && decide ((ord.filter fun j => fs.contains (j + 2000)).length ≤ 1))) && linGo l fs A (k :: prev) (if fs.contains k then k :: seen else seen) ord
def linB (l : List Oper) (fs : List Nat) (A : List (List Nat)) (ord : List Nat) : Bool :=
  ((List.range l.length).all fun j => ord.contains j) && decide ord.Nodup && (ord.all fun j => decide (j < l.length)) && (fs.all fun j => decide (j < 2000)) && linGo l fs A [] [] ord
def linB2 (l : List Oper) (fs : List Nat) (A : List (List Nat)) (ord : List Nat) : Bool :=
  ((List.range l.length).all fun j => ord.contains j) && decide ord.Nodup && (ord.all fun j => decide (j < l.length)) && linGo l fs A [] [] ord

structure OpOk (l : List Oper) (fs : List Nat) (A : List (List Nat)) (prev seen : List Nat) (k : Nat) (o : Oper) : Prop where
  tmp : fs.contains k = true → fs.contains (k + 2000) = false → fs.contains (k + 5000) = false → ∀ j ∈ prev, fs.contains (j + 1000) = true → j ∈ A.getD k []
  nosel : ∀ cs b, o.op ≠ .select cs b
  back : ∀ e ∈ o.after, Region.binds .any e = true → e.on < k
  anc : fs.contains (k + 2000) = false → ∀ f ∈ seen, f ∈ A.getD k []
  cert : ∀ f ∈ A.getD k [], ∃ e ∈ o.after, Region.binds .any e = true ∧ (e.on = f ∨ f ∈ A.getD e.on [])
  reads : ∀ j d, j < l.length → dstAt l j = some d → d ∈ o.looksAt l.toArray → j ∈ prev ∧ ∃ e ∈ o.after, Region.binds .any e = true ∧ e.on = j
  one : ∀ j d, j < l.length → dstAt l j = some d → j ≠ k → o.dst ≠ some d
  nofs : fs.contains (k + 2000) = true → ∀ j d, j < l.length → dstAt l j = some d → d ∈ o.looksAt l.toArray → fs.contains j = false

theorem mem_deps {o : Oper} {j : Nat} : j ∈ deps o ↔ ∃ e ∈ o.after, Region.binds .any e = true ∧ e.on = j := by
  unfold deps
  simp only [List.mem_map, List.mem_filter]
  constructor
  · rintro ⟨e, ⟨h1, h2⟩, h3⟩; exact ⟨e, by simpa using h1, h2, h3⟩
  · rintro ⟨e, h1, h2, h3⟩; exact ⟨e, ⟨by simpa using h1, h2⟩, h3⟩

theorem linOp_spec {A : List (List Nat)} {prev seen : List Nat} {k : Nat} {o : Oper} (h : linOp l fs A prev seen k o = true) : OpOk l fs A prev seen k o := by
  simp only [linOp, Bool.and_eq_true] at h
  obtain ⟨⟨⟨⟨⟨h0, h1⟩, h2⟩, h3⟩, h4⟩, h5⟩ := h
  refine ⟨fun hk hk2 hk5 j hj ht => by
    rw [hk, hk2, hk5, Bool.not_true, Bool.false_or, Bool.false_or, Bool.false_or] at h0
    have := List.all_eq_true.1 h0 j hj
    rw [ht] at this
    simpa using this, fun cs b e => by rw [e] at h1; simp at h1, fun e he hb => ?_, fun hal f hf => ?_, fun f hf => ?_, fun j d hj hd hl => ?_, fun j d hj hd hne => ?_, fun hk j d hj hd hl => ?_⟩
  · have := List.all_eq_true.1 h2 e.on (mem_deps.2 ⟨e, he, hb, rfl⟩)
    simpa using this
  · rw [hal, Bool.false_or] at h3
    have := List.all_eq_true.1 h3 f hf
    simpa using this
  · have := List.all_eq_true.1 h4 f hf
    obtain ⟨j, hj, hj2⟩ := List.any_eq_true.1 this
    obtain ⟨e, he, hb, rfl⟩ := mem_deps.1 hj
    exact ⟨e, he, hb, by simpa using hj2⟩
  · have := List.all_eq_true.1 h5 j (List.mem_range.2 hj)
    rw [hd] at this
    simp only [Bool.and_eq_true, Bool.or_eq_true, Bool.not_eq_true'] at this
    rcases this.1 with h6 | h6
    · exact absurd hl (by simpa using h6)
    · exact ⟨by simpa using h6.1.1, mem_deps.1 (by simpa using h6.1.2)⟩
  · have := List.all_eq_true.1 h5 j (List.mem_range.2 hj)
    rw [hd] at this
    simp only [Bool.and_eq_true, Bool.or_eq_true, beq_iff_eq] at this
    rcases this.2 with h6 | h6
    · exact absurd h6 hne
    · simpa using h6
  · have := List.all_eq_true.1 h5 j (List.mem_range.2 hj)
    rw [hd] at this
    simp only [Bool.and_eq_true, Bool.or_eq_true, Bool.not_eq_true'] at this
    rcases this.1 with h6 | h6
    · exact absurd hl (by simpa using h6)
    · rcases h6.2 with h7 | h7
      · rw [hk] at h7; cases h7
      · exact h7

theorem linGo_spec {A : List (List Nat)} : ∀ (ord prev seen : List Nat), linGo l fs A prev seen ord = true → ∀ (x : List Nat) (k : Nat) (y : List Nat), ord = x ++ k :: y →
    ∃ o, l[k]? = some o ∧ OpOk l fs A (x.reverse ++ prev) ((x.filter fun j => fs.contains j).reverse ++ seen) k o ∧ (fs.contains k = true → fs.contains (k + 2000) = false → (∀ j ∈ y, fs.contains (j + 2000) = false) ∨ (fs.contains (k + 4000) = true ∧ (y.filter fun j => fs.contains (j + 2000)).length ≤ 1))
  | [], _, _, _, x, k, y, e => by simp at e
  | k0 :: ord, prev, seen, h, x, k, y, e => by
    simp only [linGo, Bool.and_eq_true] at h
    cases x with
    | nil =>
      simp only [List.nil_append, List.cons.injEq] at e
      obtain ⟨rfl, rfl⟩ := e
      cases ho : l[k0]? with
      | none => rw [ho] at h; simp at h
      | some o =>
        rw [ho] at h
        refine ⟨o, rfl, by simpa using linOp_spec h.1.1, fun h1 h2 => ?_⟩
        have h3 := h.1.2
        rw [h1, h2] at h3
        simp only [Bool.not_true, Bool.false_or, Bool.or_eq_true, Bool.and_eq_true, decide_eq_true_eq] at h3
        refine h3.imp (fun h4 j hj => ?_) id
        have := List.all_eq_true.1 h4 j hj
        simpa using this
    | cons x0 x =>
      simp only [List.cons_append, List.cons.injEq] at e
      obtain ⟨rfl, rfl⟩ := e
      obtain ⟨o, ho, hk, hy⟩ := linGo_spec _ _ _ h.2 x k y rfl
      refine ⟨o, ho, ?_, hy⟩
      have e1 : (k0 :: x).reverse ++ prev = x.reverse ++ (k0 :: prev) := by simp
      have e2 : (((k0 :: x).filter fun j => fs.contains j).reverse ++ seen) = (x.filter fun j => fs.contains j).reverse ++ (if fs.contains k0 then k0 :: seen else seen) := by
        cases hc : fs.contains k0 with
        | true =>
          rw [List.filter_cons, if_pos hc, List.reverse_cons, List.append_assoc]; rfl
        | false =>
          rw [List.filter_cons, if_neg (by rw [hc]; exact Bool.false_ne_true)]; rfl
      rw [e1, e2]; exact hk

def slotIs (N0 d : Nat) (v : Value) (a : Act) : Prop := a.tmps[d]? = if d < N0 then some v else none
theorem slotIs_put {N0 d : Nat} {v : Value} {a : Act} (h : a.tmps.size = N0) : slotIs N0 d v (a.put (some d) v) := by
  subst h
  unfold slotIs
  simp [Act.put, Array.getElem?_setIfInBounds]

def Pend (P : Program) (l : List Oper) (w0 : World) (N0 k : Nat) (af : Act) (Lq : List Ent) : Prop :=
  ∃ o v, l[k]? = some o ∧ (∀ d, o.dst = some d → slotIs N0 d v af) ∧ (Region.wanted o (yielded l.toArray af.tmps) = true → quietR P o af (Mem w0 Lq) v) ∧ (Region.wanted o (yielded l.toArray af.tmps) = false → v = undef)

def Early (l : List Oper) (fs : List Nat) (mk : Nat → Mkr) (N0 : Nat) (suf : List Nat) (listed : Array Bool) (a : Act) (e : Nat × Ent) : Prop :=
  e.1 ∈ suf ∧ listed.getD e.1 true = true ∧ fs.contains e.1 = true ∧ fs.contains (e.1 + 2000) = true ∧ ∃ o, ∃ x : (mk e.1).X, l[e.1]? = some o ∧ e.2 = (mk e.1).e x ∧ ∀ d, o.dst = some d → slotIs N0 d ((mk e.1).v x) a
structure Core (P : Program) (l : List Oper) (fs : List Nat) (mk : Nat → Mkr) (Q : Exit → Act → World → Prop) (w0 : World) (ord : List Nat) (a0 : Act) (pre suf : List Nat) (af : Act) (L Lq : List Ent) (E : List (Nat × Ent)) (listed : Array Bool) (a : Act) (w : World) : Prop where
  ord : ord = pre ++ suf
  inv : HeadInv .any l.toArray l.length listed
  mem : Mem w0 (E.map (·.2) ++ L) w
  ear : ∀ e ∈ E, Early l fs mk a0.tmps.size suf listed a e
  keys : (E.map (·.1)).Nodup
  sees : ∀ w, Mem w0 L w → Mem w0 Lq w
  lin : Lin P l fs mk Q w0 suf af L Lq
  size : a.tmps.size = a0.tmps.size
  sizef : af.tmps.size = a0.tmps.size
  defers : a.defers = a0.defers
  defersf : af.defers = a0.defers
  sub : ∀ j, j < l.length → listed.getD j true = true → j ∈ pre ∨ j ∈ E.map (·.1)
  fresh : ∀ j ∈ pre, fs.contains j = true → listed.getD j true = true
  pend : ∀ j ∈ pre, listed.getD j true = false → Pend P l w0 a0.tmps.size j af (if fs.contains (j + 1000) = true then L else Lq)
  done : ∀ j d, j < l.length → listed.getD j true = true → j ∈ pre → dstAt l j = some d → a.tmps[d]? = af.tmps[d]?
  rest : ∀ d, (∀ j, j < l.length → listed.getD j true = true → dstAt l j ≠ some d) → a.tmps[d]? = a0.tmps[d]?
  full : ∀ d, (∀ j ∈ pre, dstAt l j ≠ some d) → af.tmps[d]? = a0.tmps[d]?

variable {A : List (List Nat)} {ord : List Nat} {a0 : Act}

theorem looks_same {o : Oper} (hn : ∀ cs b, o.op ≠ .select cs b) {a b : Act} (h : ∀ t ∈ o.looksAt l.toArray, a.tmps[t]? = b.tmps[t]?) :
    execOp a.eval o = execOp b.eval o ∧ Region.wanted o (yielded l.toArray a.tmps) = Region.wanted o (yielded l.toArray b.tmps) :=
  ⟨execOp_congr o hn (eval_same h), wanted_same h⟩
theorem quietR_congr {o : Oper} {a b : Act} {C D : World → Prop} {v : Value} (e : execOp a.eval o = execOp b.eval o) (hD : ∀ w, D w → C w) (h : quietR P o a C v) : quietR P o b D v := fun w hw => by
  have := h w (hD w hw)
  unfold Oper.quietAt at this ⊢
  rw [← e]; exact this

theorem pend_put {pre suf : List Nat} {i k N0 : Nat} {af : Act} {Lq Lq' : List Ent} {oi : Oper} {u : Value} (hB : linGo l fs A [] [] ord = true) (hnd : ord.Nodup) (hlt : ∀ j ∈ ord, j < l.length) (ho : ord = pre ++ i :: suf) (hio : l[i]? = some oi) (hk : k ∈ pre) (hq : ∀ w, Mem w0 Lq' w → Mem w0 Lq w)
    (h : Pend P l w0 N0 k af Lq) : Pend P l w0 N0 k (af.put oi.dst u) Lq' := by
  obtain ⟨o, v, h1, h2, h3, h4⟩ := h
  obtain ⟨x, y, rfl⟩ := List.append_of_mem hk
  have ho' : ord = x ++ k :: (y ++ i :: suf) := by rw [ho]; simp
  obtain ⟨o', hko, hok, -⟩ := linGo_spec ord [] [] hB x k _ ho'
  have : o' = o := by rw [h1] at hko; exact (Option.some.inj hko).symm
  subst this
  have hil : i < l.length := (List.getElem?_eq_some_iff.1 hio).1
  have hdi : dstAt l i = oi.dst := by simp [dstAt, hio]
  have hik : i ≠ k := fun e => by
    subst e
    rw [ho'] at hnd
    have := (List.nodup_append.1 hnd).2.1
    exact (List.nodup_cons.1 this).1 (by simp)
  have hix : i ∉ x := fun hx => by
    rw [ho'] at hnd
    exact (List.nodup_append.1 hnd).2.2 i hx i (by simp) rfl
  have hlook : ∀ t ∈ o'.looksAt l.toArray, af.tmps[t]? = (af.put oi.dst u).tmps[t]? := fun t ht => by
    refine (put_get _ _ _ _ fun e => ?_).symm
    obtain ⟨hp, _⟩ := hok.reads i t hil (by rw [hdi]; exact e) ht
    rw [List.append_nil, List.mem_reverse] at hp
    exact hix hp
  obtain ⟨e1, e2⟩ := looks_same hok.nosel hlook
  refine ⟨o', v, h1, fun d hd => ?_, fun hw => quietR_congr e1 hq (h3 (by rw [e2]; exact hw)), fun hw => h4 (by rw [e2]; exact hw)⟩
  have := h2 d hd
  unfold slotIs at this ⊢
  rw [put_get _ _ _ _ fun e => ?_]
  · exact this
  · exact hok.one i d hil (by rw [hdi]; exact e) hik hd

theorem mem_split {E : List (Nat × Ent)} {k : Nat} (h : k ∈ E.map (·.1)) : ∃ E1 x E2, E = E1 ++ (k, x) :: E2 := by
  obtain ⟨e, he, rfl⟩ := List.mem_map.1 h
  obtain ⟨E1, E2, rfl⟩ := List.append_of_mem he
  exact ⟨E1, e.2, E2, rfl⟩
theorem core_adv (hB : linGo l fs A [] [] ord = true) (hnd : ord.Nodup) (hlt : ∀ j ∈ ord, j < l.length) : ∀ (suf pre : List Nat) (af : Act) {L Lq : List Ent} {E : List (Nat × Ent)} {listed : Array Bool} {a : Act} {w : World}, Core P l fs mk Q w0 ord a0 pre suf af L Lq E listed a w →
    ∃ pre' suf' af' L' E', Core P l fs mk Q w0 ord a0 pre' suf' af' L' Lq E' listed a w ∧ (suf' = [] ∨ ∃ f r, suf' = f :: r ∧ fs.contains f = true ∧ f ∉ E'.map (·.1))
  | [], pre, af, L, _, E, _, _, _, H => ⟨pre, [], af, L, E, H, .inl rfl⟩
  | k :: suf, pre, af, L, Lq, E, listed, a, w, H => by
    have hkp : k ∉ pre := fun h => by
      have hnd' := hnd
      rw [H.ord] at hnd'
      exact (List.nodup_append.1 hnd').2.2 k h k (by simp) rfl
    have hun : ∀ j, j ∈ pre → j ≠ k := fun j hj e => hkp (e ▸ hj)
    have hks : k ∉ suf := fun h => by
      have hnd' := hnd
      rw [H.ord] at hnd'
      exact (List.nodup_cons.1 (List.nodup_append.1 hnd').2.1).1 h
    obtain ⟨o', hko', hok, -⟩ := linGo_spec ord [] [] hB pre k suf H.ord
    have hkl : k < l.length := (List.getElem?_eq_some_iff.1 hko').1
    have hdk : dstAt l k = o'.dst := by simp [dstAt, hko']
    cases hf : fs.contains k with
    | true =>
      by_cases hE : k ∈ E.map (·.1)
      · obtain ⟨E1, x, E2, rfl⟩ := mem_split hE
        obtain ⟨_, hlk, _, hal, oe, b, hoe, hx, hsl⟩ := H.ear (k, x) (by simp)
        simp only at hlk hal hoe hx hsl
        have e0 : oe = o' := by rw [hoe] at hko'; exact Option.some.inj hko'
        subst e0
        obtain ⟨o, hko, hl⟩ := H.lin
        rw [if_pos hf, if_pos hal] at hl
        have e1 : o = oe := by rw [hko] at hko'; exact Option.some.inj hko'
        subst e1
        obtain ⟨_, _, _, hlin⟩ := hl
        have hperm : (((E1 ++ (k, x) :: E2).map (·.2)) ++ L).Perm (((E1 ++ E2).map (·.2)) ++ x :: L) := by
          simp only [List.map_append, List.map_cons, List.append_assoc, List.cons_append]
          exact List.Perm.append_left _ (List.perm_middle.symm)
        have hkeys := H.keys
        simp only [List.map_append, List.map_cons] at hkeys
        have hkE : ∀ e ∈ E1 ++ E2, e.1 ≠ k := fun e he e2 => by
          obtain ⟨n1, n2, n3⟩ := List.nodup_append.1 hkeys
          rcases List.mem_append.1 he with h | h
          · exact n3 e.1 (List.mem_map_of_mem h) k (by simp) e2
          · exact (List.nodup_cons.1 n2).1 (e2 ▸ List.mem_map_of_mem h)
        refine core_adv hB hnd hlt suf (pre ++ [k]) (af.put o.dst ((mk k).v b)) (L := x :: L) (E := E1 ++ E2) ⟨by rw [H.ord]; simp, H.inv, H.mem.perm hperm, fun e he => ?_, ?_, fun w hw => H.sees w (hw.sub (List.sublist_cons_self _ _)), by rw [hx]; exact hlin b, H.size, by rw [put_size]; exact H.sizef, H.defers, by rw [put_def]; exact H.defersf, fun j hj hl => ?_, fun j hj hf' => ?_, fun j hj hl => ?_, fun j d hj hl hjp hd => ?_, H.rest, fun d hd => ?_⟩
        · have hm : e ∈ E1 ++ (k, x) :: E2 := by
            rcases List.mem_append.1 he with h | h
            · exact List.mem_append_left _ h
            · exact List.mem_append_right _ (List.mem_cons_of_mem _ h)
          obtain ⟨g1, g2⟩ := H.ear e hm
          exact ⟨(List.mem_cons.1 g1).resolve_left (hkE e he), g2⟩
        · rw [List.map_append]
          exact hkeys.sublist (List.Sublist.append_left (List.sublist_cons_self _ _) _)
        · rcases H.sub j hj hl with h | h
          · exact .inl (List.mem_append_left _ h)
          · simp only [List.map_append, List.map_cons, List.mem_append, List.mem_cons] at h
            rcases h with h | h | h
            · exact .inr (by simp only [List.map_append, List.mem_append]; exact .inl h)
            · exact .inl (by rw [h]; simp)
            · exact .inr (by simp only [List.map_append, List.mem_append]; exact .inr h)
        · rcases List.mem_append.1 hj with h | h
          · exact H.fresh j h hf'
          · obtain rfl := List.mem_singleton.1 h; exact hlk
        · rcases List.mem_append.1 hj with h | h
          · have hp := H.pend j h hl
            cases htj : fs.contains (j + 1000) with
            | true =>
              rw [htj] at hp
              simp only [if_true] at hp ⊢
              exact pend_put hB hnd hlt H.ord hko h (fun w hw => hw.sub (List.sublist_cons_self _ _)) hp
            | false =>
              rw [htj] at hp
              simp only [Bool.false_eq_true, if_false] at hp ⊢
              exact pend_put hB hnd hlt H.ord hko h (fun _ h => h) hp
          · obtain rfl := List.mem_singleton.1 h
            rw [hlk] at hl; cases hl
        · rcases List.mem_append.1 hjp with h | h
          · rw [put_get _ _ _ _ (hok.one j d hj hd (hun j h))]
            exact H.done j d hj hl h hd
          · obtain rfl := List.mem_singleton.1 h
            rw [hdk] at hd
            have h3 := hsl d hd
            rw [hd]
            have h4 : slotIs a0.tmps.size d ((mk j).v b) (af.put (some d) ((mk j).v b)) := slotIs_put H.sizef
            unfold slotIs at h3 h4
            rw [h3, h4]
        · rw [put_get _ _ _ _ (by have := hd k (by simp); rwa [hdk] at this)]
          exact H.full d fun j hj => hd j (List.mem_append_left _ hj)
      · exact ⟨pre, k :: suf, af, L, E, H, .inr ⟨k, suf, rfl, hf, hE⟩⟩
    | false =>
      obtain ⟨o, hko, hl⟩ := H.lin
      rw [if_neg (by rw [hf]; exact Bool.false_ne_true)] at hl
      obtain ⟨v, h1, h2, h3⟩ := hl
      have : o' = o := by rw [hko] at hko'; exact (Option.some.inj hko').symm
      subst this
      have hlook : ∀ t ∈ o'.looksAt l.toArray, af.tmps[t]? = (af.put o'.dst v).tmps[t]? := fun t ht => by
        refine (put_get _ _ _ _ fun e => ?_).symm
        obtain ⟨hp, _⟩ := hok.reads k t hkl (by rw [hdk]; exact e) ht
        rw [List.append_nil, List.mem_reverse] at hp
        exact hkp hp
      obtain ⟨e1, e2⟩ := looks_same hok.nosel hlook
      refine core_adv hB hnd hlt suf (pre ++ [k]) (af.put o'.dst v) ⟨by rw [H.ord]; simp, H.inv, H.mem, fun e he => ?_, H.keys, H.sees, h3, H.size, by rw [put_size]; exact H.sizef, H.defers, by rw [put_def]; exact H.defersf, fun j hj hl => (H.sub j hj hl).imp_left fun h => List.mem_append_left _ h, fun j hj hf' => ?_, fun j hj hl => ?_, fun j d hj hl hjp hd => ?_, H.rest, fun d hd => ?_⟩
      · obtain ⟨g1, g2, g3, g4⟩ := H.ear e he
        exact ⟨(List.mem_cons.1 g1).resolve_left (fun e2 => by rw [e2, hf] at g3; cases g3), g2, g3, g4⟩
      · rcases List.mem_append.1 hj with h | h
        · exact H.fresh j h hf'
        · obtain rfl := List.mem_singleton.1 h
          rw [hf] at hf'; cases hf'
      · rcases List.mem_append.1 hj with h | h
        · exact pend_put hB hnd hlt H.ord hko h (fun _ h => h) (H.pend j h hl)
        · obtain rfl := List.mem_singleton.1 h
          refine ⟨o', v, hko, fun d hd => by rw [hd]; exact slotIs_put H.sizef, fun hw => quietR_congr e1 (fun _ h => h) (h1 (by rw [e2]; exact hw)), fun hw => h2 (by rw [e2]; exact hw)⟩
      · rcases List.mem_append.1 hjp with h | h
        · rw [put_get _ _ _ _ (hok.one j d hj hd (hun j h))]
          exact H.done j d hj hl h hd
        · obtain rfl := List.mem_singleton.1 h
          rcases H.sub j hj hl with h5 | h5
          · exact absurd h5 hkp
          · obtain ⟨e, he, hej⟩ := List.mem_map.1 h5
            obtain ⟨_, _, g3, _⟩ := H.ear e he
            rw [hej, hf] at g3; cases g3
      · rw [put_get _ _ _ _ (by have := hd k (by simp); rwa [hdk] at this)]
        exact H.full d fun j hj => hd j (List.mem_append_left _ hj)

theorem split_uniq {x p1 y y' : List Nat} {i : Nat} (hn : (p1 ++ i :: y').Nodup) (h : x ++ i :: y = p1 ++ i :: y') : x = p1 := by
  induction x generalizing p1 with
  | nil =>
    cases p1 with
    | nil => rfl
    | cons q p1 =>
      simp only [List.nil_append, List.cons_append, List.cons.injEq] at h
      obtain ⟨rfl, _⟩ := h
      exact absurd (by simp) (List.nodup_cons.1 hn).1
  | cons c x ih =>
    cases p1 with
    | nil =>
      simp only [List.nil_append, List.cons_append, List.cons.injEq] at h
      obtain ⟨rfl, h2⟩ := h
      rw [← h2] at hn
      exact absurd (by simp) (List.nodup_cons.1 hn).1
    | cons q p1 =>
      simp only [List.cons_append, List.cons.injEq] at h
      obtain ⟨rfl, h2⟩ := h
      rw [ih (List.nodup_cons.1 hn).2 h2]
theorem cert_listed {listed : Array Bool} (hB : linGo l fs A [] [] ord = true) (hin : ∀ j, j < l.length → j ∈ ord) (inv : HeadInv .any l.toArray l.length listed) : ∀ (k : Nat) (o : Oper), l[k]? = some o → (∀ e ∈ o.after, Region.binds .any e = true → listed.getD e.on false = true) →
    ∀ f ∈ A.getD k [], listed.getD f false = true := by
  intro k
  induction k using Nat.strongRecOn with
  | _ k ih =>
    intro o hko hd f hf
    obtain ⟨x, y, hx⟩ := List.append_of_mem (hin k (List.getElem?_eq_some_iff.1 hko).1)
    obtain ⟨o', hko', hok, -⟩ := linGo_spec ord [] [] hB x k y hx
    have : o' = o := by rw [hko] at hko'; exact (Option.some.inj hko').symm
    subst this
    obtain ⟨e, he, hb, h⟩ := hok.cert f hf
    have hl := hd e he hb
    rcases h with rfl | h
    · exact hl
    · have hlt := hok.back e he hb
      have hel : e.on < l.length := by have := (List.getElem?_eq_some_iff.1 hko).1; omega
      exact ih e.on hlt l[e.on] (by simp [hel]) (inv.closed e.on _ (by simp [hel]) hl) f h

theorem getD_tf {listed : Array Bool} {i : Nat} (hi : i < listed.size) (h : listed.getD i false = true) : listed.getD i true = true := by
  simp [hi] at h ⊢; exact h

theorem any_of_core (hB : linGo l fs A [] [] ord = true) (hnd : ord.Nodup) (hlt : ∀ j ∈ ord, j < l.length) (hin : ∀ j, j < l.length → j ∈ ord) (hAq : ∀ k, k < l.length → fs.contains k = false → fs.contains (k + 2000) = false) :
    ∀ (m : Nat) (pre suf : List Nat) (af : Act) (L Lq : List Ent) (E : List (Nat × Ent)) (listed : Array Bool) (a : Act) (w : World), left l.length listed = m → Core P l fs mk Q w0 ord a0 pre suf af L Lq E listed a w → wpAny P .any l.toArray Q m listed a w
  | 0, pre0, suf0, af0, L0, Lq, E0, listed, a, w, hm, H0 => by
    obtain ⟨pre, suf, af, L, E, H, hsuf⟩ := core_adv hB hnd hlt suf0 pre0 af0 H0
    have hall : ∀ j, j < l.length → listed.getD j true = true := fun j hj => by
      cases h : listed.getD j true with
      | true => rfl
      | false =>
        have : j ∈ (List.range l.length).filter fun i => !listed.getD i true := List.mem_filter.2 ⟨List.mem_range.2 hj, by rw [h]; rfl⟩
        rw [List.length_eq_zero_iff.1 hm] at this
        cases this
    have hr : Region.ready .any l.toArray listed = [] := by
      refine List.eq_nil_iff_forall_not_mem.2 fun i hi => ?_
      obtain ⟨h1, o, h2, _⟩ := mem_ready.1 hi
      rw [hall i (by have := (Array.getElem?_eq_some_iff.1 h2).1; simpa using this)] at h1; cases h1
    have hsuf2 : suf = [] := by
      rcases hsuf with h | ⟨k, r, hs, _, hE⟩
      · exact h
      · exfalso
        have hk : k ∈ ord := by rw [H.ord, hs]; simp
        rcases H.sub k (hlt k hk) (hall k (hlt k hk)) with this | this
        · have hnd' := hnd
          rw [H.ord, hs] at hnd'
          exact absurd rfl ((List.nodup_append.1 hnd').2.2 k this k (by simp))
        · exact hE this
    have hE : E = [] := List.eq_nil_iff_forall_not_mem.2 fun e he => by
      have := (H.ear e he).1
      rw [hsuf2] at this; cases this
    have hlin := H.lin
    rw [hsuf2] at hlin
    have hord := H.ord
    rw [hsuf2, List.append_nil] at hord
    have e1 : a = af := by
      have : a.tmps = af.tmps := by
        apply Array.ext_getElem?
        intro d
        by_cases hw : ∃ j, j < l.length ∧ dstAt l j = some d
        · obtain ⟨j, hj, hd⟩ := hw
          exact H.done j d hj (hall j hj) (by rw [← hord]; exact hin j hj) hd
        · have h1 : ∀ j, j < l.length → dstAt l j ≠ some d := fun j hj hd => hw ⟨j, hj, hd⟩
          rw [H.rest d fun j hj _ => h1 j hj, H.full d fun j hj => h1 j (hlt j (by rw [hord]; exact hj))]
      have h2 : a.defers = af.defers := by rw [H.defers, H.defersf]
      cases a; cases af
      simp_all
    subst e1
    have hmem := H.mem
    rw [hE] at hmem
    exact ⟨hr, hlin w (by simpa using hmem)⟩
  | m + 1, pre0, suf0, af0, L0, Lq, E0, listed, a, w, hm, H0 => by
    obtain ⟨pre, suf, af, L, E, H, hsuf⟩ := core_adv hB hnd hlt suf0 pre0 af0 H0
    have hmL : Mem w0 L w := H.mem.sub (List.sublist_append_right _ _)
    obtain ⟨i0, hi0, hun0, hmin⟩ : ∃ i, i < l.length ∧ listed.getD i true = false ∧ ∀ j, j < i → listed.getD j true = true := by
      have hne : ∃ i, i < l.length ∧ listed.getD i true = false := by
        cases hf : (List.range l.length).filter fun i => !listed.getD i true with
        | nil => rw [left, hf] at hm; cases hm
        | cons i r =>
          have : i ∈ (List.range l.length).filter fun i => !listed.getD i true := by rw [hf]; simp
          obtain ⟨h1, h2⟩ := List.mem_filter.1 this
          exact ⟨i, List.mem_range.1 h1, by simpa using h2⟩
      obtain ⟨i, h1, h2⟩ := hne
      induction i using Nat.strongRecOn with
      | _ i ih =>
        by_cases h : ∃ j, j < i ∧ listed.getD j true = false
        · obtain ⟨j, hj, hj2⟩ := h
          exact ih j hj (by omega) hj2
        · refine ⟨i, h1, h2, fun j hj => ?_⟩
          cases hh : listed.getD j true with
          | true => rfl
          | false => exact absurd ⟨j, hj, hh⟩ h
    have hsz : listed.size = l.length := by simpa using H.inv.size
    have ok : ∀ k, k < l.length → ∃ x y o, ord = x ++ k :: y ∧ l[k]? = some o ∧ OpOk l fs A (x.reverse ++ []) ((x.filter fun j => fs.contains j).reverse ++ []) k o := fun k hk => by
      obtain ⟨x, y, hx⟩ := List.append_of_mem (hin k hk)
      obtain ⟨o, ho, hok, -⟩ := linGo_spec ord [] [] hB x k y hx
      exact ⟨x, y, o, hx, ho, hok⟩
    have hready : i0 ∈ Region.ready .any l.toArray listed := by
      obtain ⟨x, y, o, _, ho, hok⟩ := ok i0 hi0
      refine mem_ready.2 ⟨hun0, o, by simpa using ho, fun e he hb => ?_⟩
      have h1 := hok.back e he hb
      have h2 := hmin e.on h1
      have h3 : e.on < listed.size := by omega
      simp [h3] at h2 ⊢; exact h2
    refine ⟨fun h => (by rw [h] at hready; cases hready), fun i hi => ?_⟩
    obtain ⟨hun, o', ho', hdep⟩ := mem_ready.1 hi
    have hin' : i < l.length := by have := (Array.getElem?_eq_some_iff.1 ho').1; simpa using this
    obtain ⟨x, y, o, hx, ho, hok⟩ := ok i hin'
    have : o' = o := by simpa [ho] using ho'.symm
    subst this
    have hleft : left l.length (listed.setIfInBounds i true) = m := by have := left_set hin' hun; omega
    have hdi : dstAt l i = o'.dst := by simp [dstAt, ho]
    have getne : ∀ j, j ≠ i → (listed.setIfInBounds i true).getD j true = listed.getD j true := fun j hji => getD_set_ne true (Ne.symm hji)
    have geti : (listed.setIfInBounds i true).getD i true = true := by simp [show i < listed.size by omega]
    have hone : ∀ j d, j < l.length → dstAt l j = some d → j ≠ i → o'.dst ≠ some d := hok.one
    have hlook0 : (∀ j ∈ x, j ∈ pre) → ∀ t ∈ o'.looksAt l.toArray, a.tmps[t]? = af.tmps[t]? := fun hpx t ht => by
      by_cases hw : ∃ j, j < l.length ∧ dstAt l j = some t
      · obtain ⟨j, hj, hd⟩ := hw
        obtain ⟨hjx, e, he, hb, hon⟩ := hok.reads j t hj hd ht
        have hl := hdep e he hb
        rw [hon] at hl
        rw [List.append_nil, List.mem_reverse] at hjx
        exact H.done j t hj (getD_tf (by omega) hl) (hpx j hjx) hd
      · have h1 : ∀ j, j < l.length → dstAt l j ≠ some t := fun j hj hd => hw ⟨j, hj, hd⟩
        rw [H.rest t fun j hj _ => h1 j hj, H.full t fun j hj => h1 j (hlt j (by rw [H.ord]; exact List.mem_append_left _ hj))]
    by_cases hip : i ∈ pre
    · -- a quiet operation
      have hpx : ∀ j ∈ x, j ∈ pre := fun j hj => by
        obtain ⟨p1, p2, hp⟩ := List.append_of_mem hip
        have h1 := H.ord
        rw [hp, hx, List.append_assoc, List.cons_append] at h1
        have hnd1 := hnd
        rw [hx] at hnd1
        have h2 : x = p1 := split_uniq (h1 ▸ hnd1) h1
        rw [hp, ← h2]; exact List.mem_append_left _ hj
      obtain ⟨ee, ew⟩ := looks_same hok.nosel (hlook0 hpx)
      obtain ⟨op, v, hop, hv1, hv2, hv3⟩ := H.pend i hip hun
      have : op = o' := by rw [ho] at hop; exact (Option.some.inj hop).symm
      subst this
      have hfi : fs.contains i = false := by
        cases h : fs.contains i with
        | false => rfl
        | true => have := H.fresh i hip h; rw [hun] at this; cases this
      have next : ∀ w', Mem w [] w' → wpAny P .any l.toArray Q m (listed.setIfInBounds i true) (a.put op.dst v) w' := fun w' hw' => by
        refine any_of_core hB hnd hlt hin hAq m pre suf af L Lq E _ _ w' hleft ⟨H.ord, H.inv.set hi hin', by simpa using H.mem.call hw', fun e he => ?_, H.keys, H.sees, H.lin, by rw [put_size]; exact H.size, H.sizef, by rw [put_def]; exact H.defers, H.defersf, fun j hj hl => ?_, fun j hj hf => ?_, fun j hj hl => ?_, fun j d hj hl hjp hd => ?_, fun d hd => ?_, H.full⟩
        · obtain ⟨g1, g2, g3, g4, oe, b, g5, g7, g8⟩ := H.ear e he
          have hei : e.1 ≠ i := fun e2 => by
            have hnd' := hnd
            rw [H.ord] at hnd'
            exact (List.nodup_append.1 hnd').2.2 i hip e.1 g1 e2.symm
          refine ⟨g1, by rw [getne _ hei]; exact g2, g3, g4, oe, b, g5, g7, fun d hd => ?_⟩
          have := g8 d hd
          unfold slotIs at this ⊢
          rw [put_get _ _ _ _ (hone e.1 d (List.getElem?_eq_some_iff.1 g5).1 (by simp [dstAt, g5, hd]) hei)]
          exact this
        · by_cases hji : j = i
          · subst hji; exact .inl hip
          · exact H.sub j hj (by rw [← getne j hji]; exact hl)
        · rw [getne j (fun e => by subst e; rw [hfi] at hf; cases hf)]; exact H.fresh j hj hf
        · exact H.pend j hj (by rw [← getne j (fun e => by subst e; rw [geti] at hl; cases hl)]; exact hl)
        · by_cases hji : j = i
          · subst hji
            rw [hdi] at hd
            have h2 := hv1 d hd
            rw [hd]
            have h3 : slotIs a0.tmps.size d v (a.put (some d) v) := slotIs_put H.size
            unfold slotIs at h2 h3
            rw [h2, h3]
          · rw [getne j hji] at hl
            rw [put_get _ _ _ _ (hone j d hj hd hji)]
            exact H.done j d hj hl hjp hd
        · have h1 : op.dst ≠ some d := by
            have := hd i hin' geti
            rwa [hdi] at this
          rw [put_get _ _ _ _ h1]
          refine H.rest d fun j hj hl => ?_
          by_cases hji : j = i
          · subst hji; rw [hdi]; exact h1
          · exact hd j hj (by rw [getne j hji]; exact hl)
      unfold wpOp
      simp only [ho']
      rw [ew]
      split
      · rename_i hwt
        have h1 := hv2 hwt w (by
          split
          · exact hmL
          · exact H.sees w hmL)
        refine .inl ?_
        unfold Oper.wp
        rw [ee]
        unfold Oper.quietAt at h1
        generalize (execOp af.eval op).run P w = r at h1
        unfold Oper.quietUpon at h1
        split at h1
        · obtain ⟨rfl, rfl⟩ := h1; exact next _ (Mem.init _)
        · obtain ⟨rfl, e⟩ := h1; rw [e] at next; exact next _ (Mem.init _)
        · obtain ⟨rfl, hcal⟩ := h1
          exact hcal.mono fun e w'' ⟨he, hm⟩ => by subst he; exact next _ hm
        · exact h1.elim
      · rename_i hwt
        have := hv3 (by simpa using hwt)
        rw [this] at next
        exact next w (Mem.init _)
    · -- what is to be made next
      have his : i ∈ suf := by
        have := hin i hin'
        rw [H.ord] at this
        exact (List.mem_append.1 this).resolve_left hip
      rcases hsuf with rfl | ⟨f, r, rfl, hff, hfE⟩
      · cases his
      have hdone : ∀ (v : Value) (j d : Nat), j < l.length → (listed.setIfInBounds i true).getD j true = true → j ∈ pre → dstAt l j = some d → (a.put o'.dst v).tmps[d]? = af.tmps[d]? := fun v j d hj hl hjp hd => by
        have hji : j ≠ i := fun e => hip (e ▸ hjp)
        rw [getne j hji] at hl
        rw [put_get _ _ _ _ (hone j d hj hd hji)]
        exact H.done j d hj hl hjp hd
      have hrest : ∀ (v : Value) (d : Nat), (∀ j, j < l.length → (listed.setIfInBounds i true).getD j true = true → dstAt l j ≠ some d) → (a.put o'.dst v).tmps[d]? = a0.tmps[d]? := fun v d hd => by
        have h1 : o'.dst ≠ some d := by
          have := hd i hin' geti
          rwa [hdi] at this
        rw [put_get _ _ _ _ h1]
        refine H.rest d fun j hj hl => ?_
        by_cases hji : j = i
        · subst hji; rw [hdi]; exact h1
        · exact hd j hj (by rw [getne j hji]; exact hl)
      have hnE : i ∉ E.map (·.1) := fun h => by
        obtain ⟨e, he, rfl⟩ := List.mem_map.1 h
        have := (H.ear e he).2.1
        rw [hun] at this; cases this
      have hear : ∀ (v : Value), ∀ e ∈ E, Early l fs mk a0.tmps.size (f :: r) (listed.setIfInBounds i true) (a.put o'.dst v) e := fun v e he => by
        obtain ⟨g1, g2, g3, g4, oe, b, g5, g7, g8⟩ := H.ear e he
        have hei : e.1 ≠ i := fun e2 => hnE (e2 ▸ List.mem_map_of_mem he)
        refine ⟨g1, by rw [getne _ hei]; exact g2, g3, g4, oe, b, g5, g7, fun d hd => ?_⟩
        have := g8 d hd
        unfold slotIs at this ⊢
        rw [put_get _ _ _ _ (hone e.1 d (List.getElem?_eq_some_iff.1 g5).1 (by simp [dstAt, g5, hd]) hei)]
        exact this
      by_cases hif : i = f
      · subst hif
        have hpx : ∀ j ∈ x, j ∈ pre := fun j hj => by
          have h1 := H.ord
          rw [hx] at h1
          have hnd1 := hnd
          rw [hx] at hnd1
          have h2 : x = pre := split_uniq (h1 ▸ hnd1) h1
          rw [← h2]; exact hj
        obtain ⟨ee, ew⟩ := looks_same hok.nosel (hlook0 hpx)
        obtain ⟨of, hof, hl⟩ := H.lin
        have : of = o' := by rw [ho] at hof; exact (Option.some.inj hof).symm
        subst this
        rw [if_pos hff] at hl
        replace hl := hl.2
        have next : ∀ v w' E' L' Lq', E' = E → (∀ e ∈ E, e.1 ∈ r) → Mem w0 (E'.map (·.2) ++ L') w' → (∀ w, Mem w0 L' w → Mem w0 Lq' w) → (∀ w, Mem w0 Lq' w → Mem w0 Lq w) → (fs.contains (i + 2000) = true ∨ fs.contains (i + 5000) = true → ∀ w, Mem w0 L' w → Mem w0 L w) → Lin P l fs mk Q w0 r (af.put of.dst v) L' Lq' → wpAny P .any l.toArray Q m (listed.setIfInBounds i true) (a.put of.dst v) w' := fun v w' E' L' Lq' hEE hEr g1 g2 g3 gal g4 => by
          subst hEE
          refine any_of_core hB hnd hlt hin hAq m (pre ++ [i]) r (af.put of.dst v) L' Lq' E' _ _ w' hleft ⟨by rw [H.ord]; simp, H.inv.set hi hin', g1, fun e he => ?_, H.keys, g2, g4, by rw [put_size]; exact H.size, by rw [put_size]; exact H.sizef, by rw [put_def]; exact H.defers, by rw [put_def]; exact H.defersf, fun j hj hlj => ?_, fun j hj hf => ?_, fun j hj hlj => ?_, fun j d hj hlj hjp hd => ?_, hrest v, fun d hd => ?_⟩
          · obtain ⟨g1', g2'⟩ := hear v e he
            exact ⟨hEr e he, g2'⟩
          · by_cases hji : j = i
            · subst hji; exact .inl (by simp)
            · exact (H.sub j hj (by rw [← getne j hji]; exact hlj)).imp_left fun h => List.mem_append_left _ h
          · rcases List.mem_append.1 hj with h | h
            · by_cases hji : j = i
              · subst hji; exact geti
              · rw [getne j hji]; exact H.fresh j h hf
            · obtain rfl := List.mem_singleton.1 h; exact geti
          · rcases List.mem_append.1 hj with h | h
            · have hji : j ≠ i := fun e => hip (e ▸ h)
              cases htj : fs.contains (j + 1000) with
              | true =>
                cases hali : fs.contains (i + 2000) with
                | true =>
                  have hp := H.pend j h (by rw [← getne j hji]; exact hlj)
                  rw [htj] at hp
                  simp only [if_true] at hp ⊢
                  exact pend_put hB hnd hlt H.ord ho h (gal (.inl hali)) hp
                | false =>
                  cases h5 : fs.contains (i + 5000) with
                  | true =>
                    have hp := H.pend j h (by rw [← getne j hji]; exact hlj)
                    rw [htj] at hp
                    simp only [if_true] at hp ⊢
                    exact pend_put hB hnd hlt H.ord ho h (gal (.inr h5)) hp
                  | false =>
                    exfalso
                    obtain ⟨oi, hoi, hoki, -⟩ := linGo_spec ord [] [] hB pre i r H.ord
                    have e1 : oi = of := by rw [ho] at hoi; exact (Option.some.inj hoi).symm
                    subst e1
                    have hja := hoki.tmp hff hali h5 j (by rw [List.append_nil, List.mem_reverse]; exact h) htj
                    have hjl := cert_listed hB hin H.inv i oi ho hdep j hja
                    have hjo : j ∈ ord := by rw [H.ord]; exact List.mem_append_left _ h
                    have := getD_tf (by have := hlt j hjo; omega) hjl
                    rw [getne j hji] at hlj
                    rw [this] at hlj; cases hlj
              | false =>
                have hp := H.pend j h (by rw [← getne j hji]; exact hlj)
                rw [htj] at hp
                simp only [Bool.false_eq_true, if_false] at hp ⊢
                exact pend_put hB hnd hlt H.ord ho h g3 hp
            · obtain rfl := List.mem_singleton.1 h
              rw [geti] at hlj; cases hlj
          · rcases List.mem_append.1 hjp with h | h
            · have hji : j ≠ i := fun e => hip (e ▸ h)
              rw [put_get _ _ _ _ (hone j d hj hd hji), put_get _ _ _ _ (hone j d hj hd hji)]
              rw [getne j hji] at hlj
              exact H.done j d hj hlj h hd
            · obtain rfl := List.mem_singleton.1 h
              rw [hdi] at hd
              rw [hd]
              have h3 : slotIs a0.tmps.size d v (a.put (some d) v) := slotIs_put H.size
              have h4 : slotIs a0.tmps.size d v (af.put (some d) v) := slotIs_put H.sizef
              unfold slotIs at h3 h4
              rw [h3, h4]
          · have h1 : of.dst ≠ some d := by
              have := hd i (by simp)
              rwa [hdi] at this
            rw [put_get _ _ _ _ h1]
            exact H.full d fun j hj => hd j (List.mem_append_left _ hj)
        have hEr : ∀ e ∈ E, e.1 ∈ r := fun e he => by
          have := (H.ear e he).1
          exact (List.mem_cons.1 this).resolve_left fun e2 => hnE (e2 ▸ List.mem_map_of_mem he)
        cases hali : fs.contains (i + 2000) with
        | true =>
          rw [if_pos hali] at hl
          obtain ⟨hg, hMk, hlin⟩ := hl
          obtain ⟨mx, w', hrun, hmem'⟩ := hMk w0 w (E.map (·.2) ++ L) H.mem
          unfold wpOp
          simp only [ho']
          rw [if_pos (by simp [Region.wanted, hg])]
          refine .inl ?_
          unfold Oper.wp
          rw [ee, hrun]
          refine next _ _ E ((mk i).e mx :: L) Lq rfl hEr ?_ (fun w hw => H.sees w (hw.sub (List.sublist_cons_self _ _))) (fun _ h => h) (fun _ w hw => hw.sub (List.sublist_cons_self _ _)) (hlin _)
          exact hmem'.perm (List.perm_middle.symm)
        | false =>
          rw [if_neg (by rw [hali]; exact Bool.false_ne_true)] at hl
          obtain ⟨hg, hrun, hfrm⟩ := hl
          have hE1 : E = [] ∨ ∃ x, E = [x] ∧ fs.contains (i + 4000) = true := by
            obtain ⟨oi, hoi, hoki, hry⟩ := linGo_spec ord [] [] hB pre i r H.ord
            rcases hry hff hali with h | ⟨h4, h5⟩
            · refine .inl (List.eq_nil_iff_forall_not_mem.2 fun e he => ?_)
              have h1 := h e.1 (hEr e he)
              rw [(H.ear e he).2.2.2.1] at h1; cases h1
            · rcases hEE : E with _ | ⟨x, _ | ⟨y, E'⟩⟩
              · exact .inl rfl
              · exact .inr ⟨x, rfl, h4⟩
              · exfalso
                have m1 : x.1 ∈ r.filter fun j => fs.contains (j + 2000) := List.mem_filter.2 ⟨hEr x (by rw [hEE]; simp), (H.ear x (by rw [hEE]; simp)).2.2.2.1⟩
                have m2 : y.1 ∈ r.filter fun j => fs.contains (j + 2000) := List.mem_filter.2 ⟨hEr y (by rw [hEE]; simp), (H.ear y (by rw [hEE]; simp)).2.2.2.1⟩
                have hkk := H.keys
                rw [hEE] at hkk
                have hne : x.1 ≠ y.1 := fun e => (List.nodup_cons.1 hkk).1 (by simp [e])
                rcases hfl : (r.filter fun j => fs.contains (j + 2000)) with _ | ⟨z, _ | ⟨z2, fl⟩⟩
                · rw [hfl] at m1; cases m1
                · rw [hfl, List.mem_singleton] at m1 m2
                  exact hne (m1.trans m2.symm)
                · rw [hfl] at h5; simp at h5
          have h1 : upon P w (fun v w' => ∃ L' Lq', Mem w0 (E.map (·.2) ++ L') w' ∧ (∀ w, Mem w0 L' w → Mem w0 Lq' w) ∧ (∀ w, Mem w0 Lq' w → Mem w0 Lq w) ∧ (fs.contains (i + 5000) = true → ∀ w, Mem w0 L' w → Mem w0 L w) ∧ Lin P l fs mk Q w0 r (af.put of.dst v) L' Lq') ((execOp af.eval of).run P w) := by
            have hmm := H.mem
            rcases hE1 with hE | ⟨x, hE, h4⟩
            · rw [hE] at hmm ⊢
              exact hrun w (by simpa using hmm)
            · rw [hE] at hmm ⊢
              exact hfrm h4 x.2 w (by simpa using hmm)
          have next2 : ∀ v w', (∃ L' Lq', Mem w0 (E.map (·.2) ++ L') w' ∧ (∀ w, Mem w0 L' w → Mem w0 Lq' w) ∧ (∀ w, Mem w0 Lq' w → Mem w0 Lq w) ∧ (fs.contains (i + 5000) = true → ∀ w, Mem w0 L' w → Mem w0 L w) ∧ Lin P l fs mk Q w0 r (af.put of.dst v) L' Lq') → wpAny P .any l.toArray Q m (listed.setIfInBounds i true) (a.put of.dst v) w' := fun v w' ⟨L', Lq', g1, g2, g3, g5, g4⟩ =>
            next v w' E L' Lq' rfl hEr g1 g2 g3 (fun h => h.elim (fun h => by rw [hali] at h; cases h) g5) g4
          unfold wpOp
          simp only [ho']
          rw [if_pos (by rw [ew]; exact hg)]
          refine .inl ?_
          unfold Oper.wp
          rw [ee]
          generalize (execOp af.eval of).run P w = r' at h1
          unfold upon at h1
          split at h1
          · exact next2 _ _ h1
          · exact next2 _ _ h1
          · obtain ⟨rfl, hcal⟩ := h1
            exact hcal.mono fun e w'' ⟨u, he, hR⟩ => by subst he; exact next2 u _ hR
          · exact h1.elim
      · have hir : i ∈ r := (List.mem_cons.1 his).resolve_left hif
        cases hali : fs.contains (i + 2000) with
        | false =>
          exfalso
          obtain ⟨r1, r2, rfl⟩ := List.append_of_mem hir
          have hx' : ord = (pre ++ f :: r1) ++ i :: r2 := by rw [H.ord]; simp
          obtain ⟨oi, hoi, hoki, -⟩ := linGo_spec ord [] [] hB _ i r2 hx'
          have e1 : oi = o' := by rw [ho] at hoi; exact (Option.some.inj hoi).symm
          subst e1
          have hfa := hoki.anc hali f (by
            rw [List.append_nil, List.mem_reverse, List.mem_filter]
            exact ⟨by simp, hff⟩)
          have hfl := cert_listed hB hin H.inv i oi ho hdep f hfa
          have hf' : f ∈ ord := by rw [H.ord]; simp
          rcases H.sub f (hlt f hf') (getD_tf (by have := hlt f hf'; omega) hfl) with hfp | hfp
          · have hnd' := hnd
            rw [H.ord] at hnd'
            exact (List.nodup_append.1 hnd').2.2 f hfp f (by simp) rfl
          · exact hfE hfp
        | true =>
          obtain ⟨of, hof, hl⟩ := H.lin
          rw [if_pos hff] at hl
          obtain ⟨oa, hoa, hga, hMk⟩ := hl.1 i hir hali
          have e1 : oa = o' := by rw [ho] at hoa; exact (Option.some.inj hoa).symm
          subst e1
          have hlook1 : ∀ t ∈ oa.looksAt l.toArray, a.tmps[t]? = af.tmps[t]? := fun t ht => by
            by_cases hw : ∃ j, j < l.length ∧ dstAt l j = some t
            · obtain ⟨j, hj, hd⟩ := hw
              obtain ⟨_, e, he, hb, hon⟩ := hok.reads j t hj hd ht
              have hlj := hdep e he hb
              rw [hon] at hlj
              have hlj2 := getD_tf (by omega) hlj
              rcases H.sub j hj hlj2 with hp | hp
              · exact H.done j t hj hlj2 hp hd
              · obtain ⟨e2, he2, rfl⟩ := List.mem_map.1 hp
                have g3 := (H.ear e2 he2).2.2.1
                rw [hok.nofs hali e2.1 t hj hd ht] at g3; cases g3
            · have h1 : ∀ j, j < l.length → dstAt l j ≠ some t := fun j hj hd => hw ⟨j, hj, hd⟩
              rw [H.rest t fun j hj _ => h1 j hj, H.full t fun j hj => h1 j (hlt j (by rw [H.ord]; exact List.mem_append_left _ hj))]
          obtain ⟨ee, _⟩ := looks_same hok.nosel hlook1
          obtain ⟨mx, w', hrun, hmem'⟩ := hMk w0 w (E.map (·.2) ++ L) H.mem
          have hfi : fs.contains i = true := by
            cases hfi : fs.contains i with
            | true => rfl
            | false =>
              exfalso
              obtain ⟨r1, r2, rfl⟩ := List.append_of_mem hir
              exact absurd hali (by rw [hAq i hin' hfi]; exact Bool.false_ne_true)
          unfold wpOp
          simp only [ho']
          rw [if_pos (by simp [Region.wanted, hga])]
          refine .inl ?_
          unfold Oper.wp
          rw [ee, hrun]
          refine any_of_core hB hnd hlt hin hAq m pre (f :: r) af L Lq ((i, (mk i).e mx) :: E) _ _ _ hleft ⟨H.ord, H.inv.set hi hin', hmem', fun e he => ?_, List.nodup_cons.2 ⟨hnE, H.keys⟩, H.sees, H.lin, by rw [put_size]; exact H.size, H.sizef, by rw [put_def]; exact H.defers, H.defersf, fun j hj hl => ?_, fun j hj hf => ?_, fun j hj hl => ?_, hdone _, hrest _, H.full⟩
          · rcases List.mem_cons.1 he with rfl | he
            · exact ⟨his, geti, hfi, hali, oa, mx, ho, rfl, fun d hd => by rw [hd]; exact slotIs_put H.size⟩
            · exact hear _ e he
          · by_cases hji : j = i
            · subst hji; exact .inr (by simp)
            · exact (H.sub j hj (by rw [← getne j hji]; exact hl)).imp_right fun h => List.mem_cons_of_mem _ h
          · have hji : j ≠ i := fun e => hip (e ▸ hj)
            rw [getne j hji]; exact H.fresh j hj hf
          · have hji : j ≠ i := fun e => hip (e ▸ hj)
            exact H.pend j hj (by rw [← getne j hji]; exact hl)

theorem wp_region_lin2 {id : Nat} {ro : Option Nat} [Tame Q] {a : Act} {w : World} {L Lq : List Ent} (A : List (List Nat)) (ord : List Nat) (hnd : noDefer l = true) (hm : P.follows .mixedOrders = true) (hB : linB2 l fs A ord = true) (hC : Mem w0 L { w with drawn := w.drawn + 1 }) (hsub : ∀ w, Mem w0 L w → Mem w0 Lq w)
    (hAq : ∀ k, k < l.length → fs.contains k = false → fs.contains (k + 2000) = false)
    (h : Lin P l fs mk Q w0 ord a L Lq) : (Code.region id l.toArray true).wpIn (fen ro) 0 P Q a w := by
  simp only [linB2, Bool.and_eq_true, decide_eq_true_eq] at hB
  obtain ⟨⟨⟨h1, h2⟩, h3⟩, h4⟩ := hB
  have hin : ∀ j, j < l.length → j ∈ ord := fun j hj => by have := List.all_eq_true.1 h1 j (List.mem_range.2 hj); simpa using this
  have hlt : ∀ j ∈ ord, j < l.length := fun j hj => by have := List.all_eq_true.1 h3 j hj; simpa using this
  refine fen_region_any hnd hm ?_
  have inv0 : HeadInv .any l.toArray l.length (Array.replicate l.toArray.size false) :=
    ⟨by simp, fun j oj _ hl => (by rw [getD_replicate_false] at hl; cases hl), fun t h1 h2 => by simp at h2; omega⟩
  have hun : ∀ j, j < l.length → (Array.replicate l.toArray.size false).getD j true = false := fun j hj => by simp [hj]
  have hleft : left l.length (Array.replicate l.toArray.size false) = l.length := by
    unfold left
    rw [List.filter_eq_self.2 (fun j hj => ?_), List.length_range]
    rw [hun j (List.mem_range.1 hj)]; rfl
  have := any_of_core (P := P) (Q := Q) (w0 := w0) (a0 := a) h4 h2 hlt hin hAq l.length [] ord a L Lq [] (Array.replicate l.toArray.size false) a _ hleft
    ⟨rfl, inv0, hC, fun e he => (by cases he), List.nodup_nil, hsub, h, rfl, rfl, rfl, rfl, fun j hj hl => (by rw [hun j hj] at hl; cases hl), fun j hj => (by cases hj), fun j hj => (by cases hj), fun j d hj hl => (by rw [hun j hj] at hl; cases hl), fun _ _ => rfl, fun _ _ => rfl⟩
  simpa using this
theorem wp_region_lin {id : Nat} {ro : Option Nat} [Tame Q] {a : Act} {w : World} {L Lq : List Ent} (A : List (List Nat)) (ord : List Nat) (hnd : noDefer l = true) (hm : P.follows .mixedOrders = true) (hB : linB l fs A ord = true) (hC : Mem w0 L { w with drawn := w.drawn + 1 }) (hsub : ∀ w, Mem w0 L w → Mem w0 Lq w)
    (h : Lin P l fs mk Q w0 ord a L Lq) : (Code.region id l.toArray true).wpIn (fen ro) 0 P Q a w := by
  have h5 : ∀ k, fs.contains (k + 2000) = false := fun k => by
    simp only [linB, Bool.and_eq_true] at hB
    cases hk : fs.contains (k + 2000) with
    | false => rfl
    | true =>
      have := List.all_eq_true.1 hB.1.2 (k + 2000) (by simpa using hk)
      have := of_decide_eq_true this
      omega
  refine wp_region_lin2 A ord hnd hm ?_ hC hsub (fun k _ _ => h5 k) h
  simp only [linB, linB2, Bool.and_eq_true] at hB ⊢
  exact ⟨hB.1.1, hB.2⟩
end
end Go.Eng

