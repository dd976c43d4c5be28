/- Values that reach memory: what they reach lies there, or is held alone. Contracts of functions, as classes. -/
import Derived.Test.YtldkgicmfbofiaaDoorBy
import Derived.Laws.Cover3
set_option linter.unusedSimpArgs false
set_option linter.unusedVariables false
namespace Go.Eng
open Go.RowKit

/-! Entries put together. -/
def Ent.emp : Ent := ⟨fun _ => False, fun _ => True, fun _ _ _ s => s⟩
def Ent.two (a b : Ent) : Ent := ⟨fun k => a.fp k ∨ b.fp k, fun h => a.sat h ∧ b.sat h ∧ ∀ k, a.fp k → ¬ b.fp k,
  fun h h' e s => ⟨a.loc h h' (fun k hk => e k (.inl hk)) s.1, b.loc h h' (fun k hk => e k (.inr hk)) s.2.1, s.2.2⟩⟩
def Ent.all : List Ent → Ent
  | [] => .emp
  | e :: r => .two e (.all r)

theorem Mem.emp_iff {w0 w : World} {L : List Ent} : Mem w0 (.emp :: L) w ↔ Mem w0 L w :=
  ⟨fun h => h.sub (List.sublist_cons_self _ _), fun h => ⟨h.below, fun e he => by
    rcases List.mem_cons.1 he with rfl | he
    · exact trivial
    · exact h.sat e he, fun e he k hk => by
    rcases List.mem_cons.1 he with rfl | he
    · exact hk.elim
    · exact h.dom e he k hk, List.pairwise_cons.2 ⟨fun _ _ _ hk => hk.elim, h.dis⟩⟩⟩
theorem Mem.two_iff {w0 w : World} {a b : Ent} {L : List Ent} : Mem w0 (.two a b :: L) w ↔ Mem w0 (a :: b :: L) w := by
  constructor
  · intro h
    have hs : (a.sat fun k => w.heap[k]?) ∧ (b.sat fun k => w.heap[k]?) ∧ ∀ k, a.fp k → ¬ b.fp k := h.sat (.two a b) (by simp)
    have hd := List.pairwise_cons.1 h.dis
    refine ⟨h.below, fun e he => ?_, fun e he k hk => ?_, ?_⟩
    · rcases List.mem_cons.1 he with rfl | he
      · exact hs.1
      · rcases List.mem_cons.1 he with rfl | he
        · exact hs.2.1
        · exact h.sat e (by simp [he])
    · rcases List.mem_cons.1 he with rfl | he
      · exact h.dom (.two e b) (by simp) k (.inl hk)
      · rcases List.mem_cons.1 he with rfl | he
        · exact h.dom (.two a e) (by simp) k (.inr hk)
        · exact h.dom e (by simp [he]) k hk
    · refine List.pairwise_cons.2 ⟨fun x hx k hk => ?_, List.pairwise_cons.2 ⟨fun x hx k hk => hd.1 x hx k (.inr hk), hd.2⟩⟩
      rcases List.mem_cons.1 hx with rfl | hx
      · exact hs.2.2 k hk
      · exact hd.1 x hx k (.inl hk)
  · intro h
    have hd := List.pairwise_cons.1 h.dis
    have hd2 := List.pairwise_cons.1 hd.2
    refine ⟨h.below, fun e he => ?_, fun e he k hk => ?_, List.pairwise_cons.2 ⟨fun x hx k hk => ?_, hd2.2⟩⟩
    · rcases List.mem_cons.1 he with rfl | he
      · exact ⟨h.sat a (by simp), h.sat b (by simp), fun k hk => hd.1 b (by simp) k hk⟩
      · exact h.sat e (by simp [he])
    · rcases List.mem_cons.1 he with rfl | he
      · rcases hk with hk | hk
        · exact h.dom a (by simp) k hk
        · exact h.dom b (by simp) k hk
      · exact h.dom e (by simp [he]) k hk
    · rcases hk with hk | hk
      · exact hd.1 x (by simp [hx]) k hk
      · exact hd2.1 x hx k hk
theorem Mem.head_congr {w0 w : World} {a : Ent} {L L' : List Ent} (h : Mem w0 (a :: L) w) (hl : ∀ w, Mem w0 L w → Mem w0 L' w) (hf : ∀ k, (∃ e ∈ L', e.fp k) → ∃ e ∈ L, e.fp k) : Mem w0 (a :: L') w := by
  have h' := hl w (h.sub (List.sublist_cons_self _ _))
  have hd := List.pairwise_cons.1 h.dis
  refine ⟨h.below, fun e he => ?_, fun e he k hk => ?_, List.pairwise_cons.2 ⟨fun x hx k hk hk' => ?_, h'.dis⟩⟩
  · rcases List.mem_cons.1 he with rfl | he
    · exact h.sat e (by simp)
    · exact h'.sat e he
  · rcases List.mem_cons.1 he with rfl | he
    · exact h.dom e (by simp) k hk
    · exact h'.dom e he k hk
  · obtain ⟨e, he, hk2⟩ := hf k ⟨x, hx, hk'⟩
    exact hd.1 e he k hk hk2
theorem Mem.all_iff {w0 w : World} : ∀ (es : List Ent) {L : List Ent}, Mem w0 (.all es :: L) w ↔ Mem w0 (es ++ L) w
  | [], _ => Mem.emp_iff
  | e :: r, L => by
    show Mem w0 (.two e (.all r) :: L) w ↔ _
    rw [Mem.two_iff]
    have sw : ∀ (a b : Ent) (K : List Ent), Mem w0 (a :: b :: K) w ↔ Mem w0 (b :: a :: K) w := fun a b K => ⟨fun h => h.perm (List.Perm.swap _ _ _), fun h => h.perm (List.Perm.swap _ _ _)⟩
    rw [sw, Mem.all_iff r]
    exact ⟨fun h => h.perm (List.perm_middle), fun h => h.perm (List.perm_middle).symm⟩

/-! Values that reach memory. -/
class Deep (τ : Type) where
  c : Nat
  cells : τ → Array Value
  size : ∀ x, (cells x).size = c
  one : ∀ x, (cells x).all (·.oneCell') = true
  good : (Nat → Option Obj) → τ → Prop
  ent : τ → Ent
  good_of : ∀ h x, (ent x).sat h → good h x
  mono : ∀ (w w' : World) x, good (hp w) x → Below w.heap.size w w' → good (hp w') x
instance Deep.enc {τ : Type} [Deep τ] : Enc (Deep.cells (τ := τ)) (Deep.c τ) := ⟨Deep.size, Deep.one⟩
/-- Values that reach nothing. -/
@[reducible] def Deep.flat {τ : Type} (enc : τ → Array Value) (c : Nat) [he : Enc enc c] : Deep τ := ⟨c, enc, he.size, he.one, fun _ _ => True, fun _ => .emp, fun _ _ _ => trivial, fun _ _ _ _ _ => trivial⟩
/-- A slice and what it holds. -/
structure Sl (τ : Type) where
  sv : Sv
  xs : List τ
theorem Ent.all_sat {h : Nat → Option Obj} : ∀ {es : List Ent}, (Ent.all es).sat h → ∀ e ∈ es, e.sat h
  | [], _, _, he => by cases he
  | _ :: _, hs, e, he => by
    rcases List.mem_cons.1 he with rfl | he
    · exact hs.1
    · exact Ent.all_sat hs.2.1 e he
instance Deep.slice {τ : Type} [d : Deep τ] : Deep (Sl τ) where
  c := 1
  cells a := senc a.sv
  size _ := rfl
  one a := Enc.one (enc := senc) (c := 1) a.sv
  good h a := Lies (Deep.cells (τ := τ)) (Deep.c τ) h a.sv a.xs ∧ ∀ x ∈ a.xs, d.good h x
  ent a := .two (own (Deep.cells (τ := τ)) (Deep.c τ) a.sv a.xs) (.all (a.xs.map d.ent))
  good_of h _ hs := ⟨hs.1.1, fun x hx => d.good_of h x (Ent.all_sat hs.2.1 _ (List.mem_map_of_mem hx))⟩
  mono w w' _ hg hb := ⟨hg.1.mono hb, fun x hx => d.mono w w' x (hg.2 x hx) hb⟩
theorem Mem.open_sl {τ : Type} [d : Deep τ] {w0 w : World} {L : List Ent} {a : Sl τ} : Mem w0 (Deep.ent a :: L) w ↔ Mem w0 (own (Deep.cells (τ := τ)) (Deep.c τ) a.sv a.xs :: a.xs.map d.ent ++ L) w := by
  show Mem w0 (.two _ (.all _) :: L) w ↔ _
  rw [Mem.two_iff]
  have sw : ∀ (a b : Ent) (K : List Ent), Mem w0 (a :: b :: K) w ↔ Mem w0 (b :: a :: K) w := fun a b K => ⟨fun h => h.perm (List.Perm.swap _ _ _), fun h => h.perm (List.Perm.swap _ _ _)⟩
  rw [sw, Mem.all_iff]
  exact ⟨fun h => h.perm (List.perm_middle), fun h => h.perm (List.perm_middle).symm⟩

/-! What is known of a slice or a value in all worlds that the frame's facts tell of. -/
section
variable {w0 : World} {L : List Ent} {τ : Type}
class Hd (w0 : World) (L : List Ent) (s : Sv) {α : outParam Type} (enc : outParam (α → Array Value)) (c : outParam Nat) (xs : outParam (List α)) : Prop where
  h : Holds w0 L enc c s xs
class Gv (w0 : World) (s : Sv) {α : outParam Type} (enc : outParam (α → Array Value)) (c : outParam Nat) (xs : outParam (List α)) : Prop where
  h : Lies enc c (hp w0) s xs
instance (priority := high) Hd.owned {s : Sv} {α : Type} {enc : α → Array Value} {c : Nat} {xs : List α} {i : Nat} [q : Owns L s enc c xs i] : Hd w0 L s enc c xs := ⟨q.holds⟩
instance Hd.given {s : Sv} {α : Type} {enc : α → Array Value} {c : Nat} {xs : List α} [q : Gv w0 s enc c xs] [Enc enc c] : Hd w0 L s enc c xs := ⟨holds_given q.h⟩
/-- .. a part of a slice. -/
class Rg (lo hi n : Nat) : Prop where
  h : lo ≤ hi ∧ hi ≤ n
instance Hd.sub {s : Sv} {α : Type} {enc : α → Array Value} {c : Nat} {xs : List α} {lo hi : Nat} [q : Hd w0 L s enc c xs] [r : Rg lo hi xs.length] : Hd w0 L (s.sub c lo hi) enc c ((xs.drop lo).take (hi - lo)) := ⟨q.h.sub r.h.1 r.h.2⟩
class HdE (w0 : World) (L : List Ent) {α : Type} (enc : α → Array Value) (c : Nat) (s : Sv) (xs : outParam (List α)) : Prop where
  h : Holds w0 L enc c s xs
instance (priority := high) HdE.of {s : Sv} {α : Type} {enc : α → Array Value} {c : Nat} {xs : List α} [q : Hd w0 L s enc c xs] : HdE w0 L enc c s xs := ⟨q.h⟩
instance HdE.none {α : Type} {enc : α → Array Value} {c : Nat} : HdE w0 L enc c Sv.none [] := ⟨fun _ _ => Lies.nil enc c _⟩

/-- A value that reaches memory. -/
class HdD (w0 : World) (L : List Ent) {τ : Type} [Deep τ] (a : τ) : Prop where
  h : ∀ w, Mem w0 L w → Deep.good (hp w) a
class GvD (w0 : World) {τ : Type} [Deep τ] (a : τ) : Prop where
  h : Deep.good (hp w0) a
class Mb {τ : Type} (x : τ) (a : outParam (Sl τ)) : Prop where
  h : x ∈ a.xs
instance HdD.given [Deep τ] {a : τ} [q : GvD w0 a] : HdD w0 L a := ⟨fun _ hw => Deep.mono w0 _ a q.h hw.below⟩
instance (priority := high) HdD.owned [Deep τ] {a : τ} {i : Nat} [q : At L (Deep.ent a) i] : HdD w0 L a := ⟨fun _ hw => Deep.good_of _ a (hw.get q.h)⟩
instance (priority := low) HdD.elem [Deep τ] {a : Sl τ} {x : τ} [q : HdD w0 L a] [m : Mb x a] : HdD w0 L x := ⟨fun w hw => (q.h w hw).2 x m.h⟩
/-- The cells of a type of plain values. -/
class FlatT (τ : Type) [Deep τ] (enc : outParam (τ → Array Value)) (c : outParam Nat) : Prop where
  hc : Deep.c τ = c
  h : ∀ x : τ, Deep.cells x = enc x
instance (priority := low) Hd.deep [d : Deep τ] {enc : τ → Array Value} {c : Nat} [f : FlatT τ enc c] {a : Sl τ} [q : HdD w0 L a] : Hd w0 L a.sv enc c a.xs := ⟨fun w hw => by
  have h := (q.h w hw).1
  have e : Deep.cells (τ := τ) = enc := funext f.h
  rw [← e, ← f.hc]; exact h⟩
end

/-! Rules over what is known. -/
section
variable {P : Program} {N : Fra} {w0 : World} {env : Env} {L : List Ent} {d : Option Tmp} {ty : TypeId} {ps : String} {af : Array Edge} {gd : Option (Nat × Bool)}
variable {α : Type} {enc : α → Array Value} {c : Nat} {s : Sv} {xs : List α}
theorem ry_lenH {t e : TypeId} {x : Operand} {m : Nat} [ht : SliceT P t e m] (hx : ev env x = some s.val) [q : Hd w0 L s enc c xs] :
    Ry P N w0 env L ⟨d, .call { callee := .builtin .len, args := #[x], argTypes := #[t] }, ty, ps, af, gd⟩ (.int .i64 (xs.length : Nat)) := fun a w ha hw =>
  ry_lenS (P := P) (N := N) (w0 := w0) (L := L) (d := d) (ty := ty) (ps := ps) (af := af) (gd := gd) hx (q.h w hw).ok (q.h w hw).len a w ha hw
theorem ry_idxH {t e : TypeId} {x ix : Operand} {m : Nat} {k : IntKind} {j : Int} [ht : SliceT P t e m] (hx : ev env x = some s.val) (hj : ev env ix = some (.int k j)) [q : Hd w0 L s enc c xs] (i : Nat) (ej : j = (i : Int)) (h1 : i < xs.length) :
    Ry P N w0 env L ⟨d, .indexAddr t x ix, ty, ps, af, gd⟩ (.pointer (some ⟨s.b, s.o + i * m, none⟩)) := fun a w ha hw =>
  ry_idxSv (P := P) (N := N) (w0 := w0) (L := L) (d := d) (ty := ty) (ps := ps) (af := af) (gd := gd) hx hj ej (q.h w hw).ok (by rw [(q.h w hw).len]; exact h1) a w ha hw
theorem ry_elemH {t : TypeId} {x : Operand} {p : Nat} {a : α} [ht : RowT P t c] [he : Enc enc c] [q : Hd w0 L s enc c xs] (hx : ev env x = some (.pointer (some ⟨s.b, p, none⟩))) (i : Nat) (hi : xs[i]? = some a) (hp' : p = s.o + i * c) :
    Ry P N w0 env L ⟨d, .load t x, ty, ps, af, gd⟩ (.agg (enc a)) := ry_elem hx q.h hi hp'
theorem ry_elemcH {t : TypeId} {x : Operand} {p j : Nat} {a : α} {v : Value} [ht : OneT P t] [q : Hd w0 L s enc c xs] (hx : ev env x = some (.pointer (some ⟨s.b, p, none⟩))) (i : Nat) (hi : xs[i]? = some a) (hp' : p = s.o + i * c + j) (hj : j < c) [hv : CellAt (enc a) j v] :
    Ry P N w0 env L ⟨d, .load t x, ty, ps, af, gd⟩ v := ry_elemc hx q.h hi hp' hj hv.h
theorem ry_elempH {t : TypeId} {x : Operand} {p j n : Nat} {a : α} {sub : Array Value} [ht : RowT P t n] [q : Hd w0 L s enc c xs] (hx : ev env x = some (.pointer (some ⟨s.b, p, none⟩))) (i : Nat) (hi : xs[i]? = some a) (hp' : p = s.o + i * c + j) (hj : j + n ≤ c) [hs : PartAt (enc a) j n sub] :
    Ry P N w0 env L ⟨d, .load t x, ty, ps, af, gd⟩ (.agg sub) := ry_elemp hx q.h hi hp' hj
theorem ry_subH {t e : TypeId} {x lo hi : Operand} {k k' : IntKind} {il ih : Int} [ht : SliceT P t e c] (hx : ev env x = some s.val) (hl : ev env lo = some (.int k il)) (hh : ev env hi = some (.int k' ih)) [q : Hd w0 L s enc c xs] (l h : Nat) (el : il = (l : Int)) (eh : ih = (h : Int)) (h1 : l ≤ h) (h2 : h ≤ xs.length) :
    Ry P N w0 env L ⟨d, .slice t x (some lo) (some hi) none, ty, ps, af, gd⟩ (s.sub c l h).val := fun a w ha hw =>
  ry_subS (P := P) (N := N) (w0 := w0) (L := L) (d := d) (ty := ty) (ps := ps) (af := af) (gd := gd) hx hl hh el eh (q.h w hw).ok h1 (by have := (q.h w hw).len; have := (q.h w hw).ok.le; omega) a w ha hw
theorem ry_subH_hi {t e : TypeId} {x hi : Operand} {k' : IntKind} {ih : Int} [ht : SliceT P t e c] (hx : ev env x = some s.val) (hh : ev env hi = some (.int k' ih)) [q : Hd w0 L s enc c xs] (h : Nat) (eh : ih = (h : Int)) (h2 : h ≤ xs.length) :
    Ry P N w0 env L ⟨d, .slice t x none (some hi) none, ty, ps, af, gd⟩ (s.sub c 0 h).val := fun a w ha hw =>
  ry_subS_hi (P := P) (N := N) (w0 := w0) (L := L) (d := d) (ty := ty) (ps := ps) (af := af) (gd := gd) hx hh eh (q.h w hw).ok (by have := (q.h w hw).len; have := (q.h w hw).ok.le; omega) a w ha hw
theorem ry_subH_lo {t e : TypeId} {x lo : Operand} {k : IntKind} {il : Int} [ht : SliceT P t e c] (hx : ev env x = some s.val) (hl : ev env lo = some (.int k il)) [q : Hd w0 L s enc c xs] (l : Nat) (el : il = (l : Int)) (h1 : l ≤ xs.length) :
    Ry P N w0 env L ⟨d, .slice t x (some lo) none none, ty, ps, af, gd⟩ (s.sub c l xs.length).val := fun a w ha hw =>
  ry_subS_lo (P := P) (N := N) (w0 := w0) (L := L) (d := d) (ty := ty) (ps := ps) (af := af) (gd := gd) hx hl el (q.h w hw).ok (q.h w hw).len h1 a w ha hw
theorem ry_bstrH {t e tb : TypeId} {x : Operand} {xs : List UInt8} (hs : P.underlying tb = some (.slice e)) (he : P.underlying e = some (.int .u8)) (hd : P.underlying t = some .string) (hx : ev env x = some s.val) [q : Hd w0 L s benc 1 xs] :
    Ry P N w0 env L ⟨d, .convert tb t x, ty, ps, af, gd⟩ (.string ⟨xs.toArray⟩) := ry_bstr hs he hd hx q.h
/-- A small number as another kind. -/
theorem ry_conv_u8 {s t : TypeId} {x : Operand} {k : IntKind} {b : UInt8} [hs : IntT P s .u8] [ht : IntT P t k] (hx : ev env x = some (.int .u8 b.toNat)) (hk : 8 ≤ nb k := by decide) :
    Ry P N w0 env L ⟨d, .convert s t x, ty, ps, af, gd⟩ (.int k b.toNat) := ry_convn hx (Nat.lt_of_lt_of_le b.toNat_lt (Nat.pow_le_pow_right (by decide) hk))
theorem ry_conv_u16 {s t : TypeId} {x : Operand} {k : IntKind} {b : UInt16} [hs : IntT P s .u16] [ht : IntT P t k] (hx : ev env x = some (.int .u16 b.toNat)) (hk : 16 ≤ nb k := by decide) :
    Ry P N w0 env L ⟨d, .convert s t x, ty, ps, af, gd⟩ (.int k b.toNat) := ry_convn hx (Nat.lt_of_lt_of_le b.toNat_lt (Nat.pow_le_pow_right (by decide) hk))
end

/-! Contracts as classes. -/
section
variable {P : Program} {N : Fra} {w0 : World} {env : Env} {L : List Ent} {l : List Oper} {Q : Exit → Act → World → Prop} {rest : List Oper} {d : Option Tmp} {ty : TypeId} {ps : String} {af : Array Edge} {gd : Option (Nat × Bool)}
/-- A call that hands back v and leaves what was there. -/
class FnQ (P : Program) (f : FuncId) (w0 : World) (L : List Ent) (vs : List Value) (v : outParam Value) (pre : outParam Prop) : Prop where
  h : pre → ∀ w, Mem w0 L w → Calls P f vs.toArray w fun e w' => e = .returned v ∧ Mem w [] w'
/-- A call that hands back val x for some x, and leaves L' x. -/
class FnC (P : Program) (f : FuncId) (w0 : World) (L : List Ent) (vs : List Value) (X : outParam Type) (val : outParam (X → Value)) (L' : outParam (X → List Ent)) (pr : outParam (X → Prop)) (pre : outParam Prop) : Prop where
  h : pre → ∀ w, Mem w0 L w → Calls P f vs.toArray w fun e w' => ∃ x, e = .returned (val x) ∧ pr x ∧ Mem w0 (L' x) w'
instance (priority := high) FnQ.pure {f : FuncId} {vs : List Value} {v : Value} [h : PureFn P f vs v] : FnQ P f w0 L vs v True := ⟨fun _ w _ => h.h w⟩
theorem yl_callC {f : FuncId} {xs : List Operand} {ts : Array TypeId} {vs : List Value} {v : Value} {pre : Prop} [hf : IsFn P f] (hx : evl env xs = some vs) [hc : FnQ P f w0 L vs v pre] (hp : pre) :
    Yl P N w0 env L ⟨d, .call { callee := .value (.func f), args := xs.toArray, argTypes := ts }, ty, ps, af, gd⟩ v := yl_call hx fun w hw => hc.h hp w hw
theorem sq_callC {X : Type} {val : X → Value} {L' : X → List Ent} {pr : X → Prop} {pre : Prop} {f : FuncId} {xs : List Operand} {ts : Array TypeId} {vs : List Value} [hf : IsFn P f] (hx : evl env xs = some vs)
    [hc : FnC P f w0 L vs X val L' pr pre] (hp : pre) (hk : ∀ x, pr x → Sq P N w0 l Q rest (putE env d (val x)) (L' x)) (hd : dstOk N d = true := by rfl) :
    Sq P N w0 l Q (⟨d, .call { callee := .value (.func f), args := xs.toArray, argTypes := ts }, ty, ps, af, none⟩ :: rest) env L := sq_callG hx (fun w hw => hc.h hp w hw) hk hd
theorem fr_callC {Lq : List Ent} {n j : Nat} {js : List Nat} {X : Type} {val : X → Value} {L' : X → List Ent} {pr : X → Prop} {pre : Prop} {f : FuncId} {xs : List Operand} {ts : Array TypeId} {vs : List Value} (hj : l[j]? = some ⟨d, .call { callee := .value (.func f), args := xs.toArray, argTypes := ts }, ty, ps, af, none⟩) [hf : IsFn P f] (hx : evl env xs = some vs)
    [hc : FnC P f w0 L vs X val L' pr pre] (hp : pre) (hL : ∀ x w, Mem w0 (L' x) w → Mem w0 Lq w) (hk : ∀ x, pr x → Fr P N w0 Lq l n Q js (putE env d (val x)) (L' x)) (hd : dstOk N d = true := by rfl) :
    Fr P N w0 Lq l n Q (j :: js) env L := fr_callG hj hx (fun w hw => hc.h hp w hw) hL hk hd
/-- Under a guard, a call that makes memory: where the guard is false nothing is there. -/
theorem sq_gcallC {X : Type} {val : X → Value} {L' : X → List Ent} {pr : X → Prop} {pre : Prop} {f : FuncId} {xs : List Operand} {ts : Array TypeId} {vs : List Value} {j t : Nat} {g : Bool} [hf : IsFn P f] (hj : (l[j]?).bind (·.dst) = some t) (hv : look env t = some (.bool g)) (hx : g = true → evl env xs = some vs)
    [hc : FnC P f w0 L vs X val L' pr pre] (hp : g = true → pre) (hk : ∀ x, (g = true → pr x) → Sq P N w0 l Q rest (putE env d (if g = true then val x else undef)) (if g = true then L' x else L)) (x0 : X) (hd : dstOk N d = true := by rfl) :
    Sq P N w0 l Q (⟨d, .call { callee := .value (.func f), args := xs.toArray, argTypes := ts }, ty, ps, af, some (j, true)⟩ :: rest) env L := by
  cases g
  · intro a w ha hw
    unfold wpList
    rw [wanted_some ha rfl hj hv]
    have := hk x0 (fun h => by cases h) (a.put d undef) w (by simpa using ha.put hd undef) (by simpa using hw)
    simpa using this
  · intro a w ha hw
    unfold wpList
    rw [wanted_some ha rfl hj hv]
    refine .inl ?_
    unfold Oper.wp
    rw [run_call hf w rfl, ha.evl (hx rfl)]
    exact (hc.h (hp rfl) w hw).mono fun e w' ⟨x, he, hpx, hm⟩ => by subst he; exact hk x (fun _ => hpx) _ _ (by simpa using ha.put hd _) (by simpa using hm)
end

/-! What is left of the memory told. -/
class DelI (L : List Ent) (i : Nat) (R : outParam (List Ent)) : Prop where
  h : L.eraseIdx i = R
instance DelI.here {e : Ent} {L : List Ent} : DelI (e :: L) 0 L := ⟨rfl⟩
instance DelI.there {e : Ent} {L R : List Ent} {i : Nat} [q : DelI L i R] : DelI (e :: L) (i + 1) (e :: R) := ⟨by simp [q.h]⟩
class Keep (L L' : List Ent) : Prop where
  h : ∃ R, L.Perm (L' ++ R)
instance (priority := high) Keep.nil {L : List Ent} : Keep L [] := ⟨⟨L, .refl _⟩⟩
instance (priority := high) Keep.same {L : List Ent} : Keep L L := ⟨⟨[], by simp⟩⟩
theorem perm_erase {e : Ent} : ∀ {L : List Ent} {i : Nat}, L[i]? = some e → L.Perm (e :: L.eraseIdx i)
  | [], i, h => by simp at h
  | x :: L, 0, h => by obtain rfl : x = e := by simpa using h
                       simp
  | x :: L, i + 1, h => by
    have := perm_erase (L := L) (i := i) (by simpa using h)
    rw [List.eraseIdx_cons_succ]
    exact (this.cons x).trans (.swap _ _ _)
instance Keep.cons {L L' R : List Ent} {e : Ent} {i : Nat} [a : At L e i] [b : DelI L i R] [k : Keep R L'] : Keep L (e :: L') := ⟨by
  obtain ⟨S, hS⟩ := k.h
  exact ⟨S, (perm_erase a.h).trans (by rw [b.h]; exact hS.cons e)⟩⟩
theorem Keep.mem {L L' : List Ent} [k : Keep L L'] {w0 w : World} (h : Mem w0 L w) : Mem w0 L' w := by
  obtain ⟨R, hR⟩ := k.h
  exact (h.perm hR).sub (List.sublist_append_left _ _)
theorem sq_mem {P : Program} {N : Fra} {w0 : World} {env : Env} {L : List Ent} {l : List Oper} {Q : Exit → Act → World → Prop} {rest : List Oper} (L' : List Ent) (h : ∀ w, Mem w0 L w → Mem w0 L' w) (hk : Sq P N w0 l Q rest env L') : Sq P N w0 l Q rest env L := fun a w ha hw => hk a w ha (h w hw)
theorem cw_mem {P : Program} {N : Fra} {w0 : World} {env : Env} {L : List Ent} {Q : Exit → Act → World → Prop} {c : Code} (L' : List Ent) (h : ∀ w, Mem w0 L w → Mem w0 L' w) (hk : Cw P N w0 Q c env L') : Cw P N w0 Q c env L := fun a w ha hw => hk a w ha (h w hw)

/-- What is known of a slice, told. -/
theorem cw_bd {P : Program} {N : Fra} {w0 : World} {env : Env} {L : List Ent} {Q : Exit → Act → World → Prop} {c : Code} (s : Sv) {α : Type} {enc : α → Array Value} {n : Nat} {xs : List α} [q : Hd w0 L s enc n xs] (hk : xs.length ≤ 140737488355328 → Cw P N w0 Q c env L) : Cw P N w0 Q c env L :=
  fun a w ha hw => hk (q.h w hw).bd a w ha hw
theorem sq_bd {P : Program} {N : Fra} {w0 : World} {env : Env} {L : List Ent} {l : List Oper} {Q : Exit → Act → World → Prop} {rest : List Oper} (s : Sv) {α : Type} {enc : α → Array Value} {n : Nat} {xs : List α} [q : Hd w0 L s enc n xs] (hk : xs.length ≤ 140737488355328 → Sq P N w0 l Q rest env L) : Sq P N w0 l Q rest env L :=
  fun a w ha hw => hk (q.h w hw).bd a w ha hw
theorem get_getD {α : Type} {xs : List α} {i : Nat} {d : α} (h : i < xs.length) : xs[i]? = some (xs.getD i d) := by
  simp [List.getD, h]
section
variable {P : Program} {N : Fra} {w0 : World} {env : Env} {L : List Ent} {l : List Oper} {Q : Exit → Act → World → Prop} {rest : List Oper} {d : Option Tmp} {ty : TypeId} {ps : String} {af : Array Edge} {gd : Option (Nat × Bool)}
variable {α : Type} {enc : α → Array Value} {c : Nat} {s : Sv} {xs : List α}
/-- Texts, as lists. -/
theorem ry_streqL {x y : Operand} {t u : TypeId} {a b : List UInt8} (hx : ev env x = some (.string ⟨a.toArray⟩)) (hy : ev env y = some (.string ⟨b.toArray⟩)) :
    Ry P N w0 env L ⟨d, .binOp .eql t x y u, ty, ps, af, gd⟩ (.bool (decide (a = b))) := by
  have e : ((⟨a.toArray⟩ : ByteArray).toList == (⟨b.toArray⟩ : ByteArray).toList) = decide (a = b) := by
    rw [ByteArray.toList_mk, ByteArray.toList_mk, Bool.eq_iff_iff]; simp
  rw [← e]; exact ry_streql hx hy
theorem ry_strneL {x y : Operand} {t u : TypeId} {a b : List UInt8} (hx : ev env x = some (.string ⟨a.toArray⟩)) (hy : ev env y = some (.string ⟨b.toArray⟩)) :
    Ry P N w0 env L ⟨d, .binOp .neq t x y u, ty, ps, af, gd⟩ (.bool (!decide (a = b))) := by
  have e : ((⟨a.toArray⟩ : ByteArray).toList == (⟨b.toArray⟩ : ByteArray).toList) = decide (a = b) := by
    rw [ByteArray.toList_mk, ByteArray.toList_mk, Bool.eq_iff_iff]; simp
  rw [← e]; exact ry_strneq hx hy
/-- Is a slice nil? -/
theorem ry_nilS {t e : TypeId} {x : Operand} {u : TypeId} (ht : P.underlying t = some (.slice e)) (hx : ev env x = some s.val) :
    Ry P N w0 env L ⟨d, .binOp .eql t x (.const (.slice none 0 0)) u, ty, ps, af, gd⟩ (.bool s.nil) := fun a w ha _ => by
  have h1 : (eqGuard BinOp.eql t x (.const (.slice none 0 0)) s.val (.slice none 0 0)).run P w = .ok () w := by
    unfold Sv.val; split <;> rfl
  have h3 : (Op.equal t s.val (.slice none 0 0)).run P w = .ok s.nil w := by
    unfold Sv.val
    split <;> rename_i hn <;> rw [run_equal_slice_nil w t e _ _ _ ht, hn] <;> rfl
  have h2 : (binOp .eql t s.val (.slice none 0 0)).run P w = .ok (.bool s.nil) w := by
    have : binOp .eql t s.val (.slice none 0 0) = (do pure (.bool (← Op.equal t s.val (.slice none 0 0)))) := by unfold Sv.val; split <;> rfl
    rw [this, Sem.run_bind, h3]; rfl
  simp only [execOp, ha.ev hx, show a.eval (.const (.slice none 0 0)) = .slice none 0 0 from rfl, Sem.run_bind, h1, Result.andThen_ok, h2, Sem.run_pure]
theorem ry_someS {t e : TypeId} {x : Operand} {u : TypeId} (ht : P.underlying t = some (.slice e)) (hx : ev env x = some s.val) :
    Ry P N w0 env L ⟨d, .binOp .neq t x (.const (.slice none 0 0)) u, ty, ps, af, gd⟩ (.bool (!s.nil)) := fun a w ha _ => by
  have h1 : (eqGuard BinOp.neq t x (.const (.slice none 0 0)) s.val (.slice none 0 0)).run P w = .ok () w := by
    unfold Sv.val; split <;> rfl
  have h3 : (Op.equal t s.val (.slice none 0 0)).run P w = .ok s.nil w := by
    unfold Sv.val
    split <;> rename_i hn <;> rw [run_equal_slice_nil w t e _ _ _ ht, hn] <;> rfl
  have h2 : (binOp .neq t s.val (.slice none 0 0)).run P w = .ok (.bool (!s.nil)) w := by
    have : binOp .neq t s.val (.slice none 0 0) = (do pure (.bool (!(← Op.equal t s.val (.slice none 0 0))))) := by unfold Sv.val; split <;> rfl
    rw [this, Sem.run_bind, h3]; rfl
  simp only [execOp, ha.ev hx, show a.eval (.const (.slice none 0 0)) = .slice none 0 0 from rfl, Sem.run_bind, h1, Result.andThen_ok, h2, Sem.run_pure]
/-- T{}: an empty slice that isn't nil. -/
theorem run_build0 {t e : TypeId} {by' : Nat} (ht : SlT P t e c by') (w : World) : (Instr.buildSlice t 0 #[]).run P w = .ok (.slice (some ⟨w.heap.size, 0, none⟩) 0 0) (w.alloc (.cells #[] e)) := by
  obtain ⟨i', z, hi1, hi2, hi3, hi4, hzc⟩ := ht.info
  have : (Array.range 0 : Array Nat) = #[] := by simp
  simp [Instr.buildSlice, run_underlying ht.und, sizeOf, typeInfo, hi1, Instr.fill, newRow, newObj, Sem.run, Result.andThen, this]
theorem sq_build0 {t e : TypeId} {by' : Nat} (enc : α → Array Value) [ht : SlT P t e c by'] [he : Enc enc c] (hk : ∀ b, Sq P N w0 l Q rest (putE env d (Sv.val ⟨false, b, 0, 0, 0, none⟩)) (own enc c ⟨false, b, 0, 0, 0, none⟩ [] :: L)) (hd : dstOk N d = true := by rfl) :
    Sq P N w0 l Q (⟨d, .buildSlice t 0 #[], ty, ps, af, none⟩ :: rest) env L :=
  sq_run rfl hd fun a w _ hw => by
    refine ⟨_, _, _, ?_, hw.call (mem_new (enc := enc) (c := c) (xs := []) (cs := #[]) (e := e) rfl 0 0 rfl (Nat.le_refl _) (Nat.zero_le _) (by simp) (by simp)), hk _⟩
    simp only [execOp, Sem.run_bind, List.map_toArray, List.map_nil, run_build0 ht w, Result.andThen, Sem.run_pure]; rfl
end
instance : Deep UInt8 := Deep.flat benc 1
instance : FlatT UInt8 benc 1 := ⟨rfl, fun _ => rfl⟩
def scells {τ : Type} (a : Sl τ) : Array Value := #[a.sv.val]
instance {τ : Type} : Enc (scells (τ := τ)) 1 := ⟨fun _ => rfl, fun a => Enc.one (enc := senc) (c := 1) a.sv⟩
instance {τ : Type} [Deep τ] : FlatT (Sl τ) scells 1 := ⟨rfl, fun _ => rfl⟩
instance {τ : Type} (a : Sl τ) : CellAt (scells a) 0 a.sv.val := ⟨rfl⟩
/-- The lists in a list of slices. -/
def lx {τ : Type} (a : Sl (Sl τ)) : List (List τ) := a.xs.map (·.xs)
theorem lx_length {τ : Type} (a : Sl (Sl τ)) : (lx a).length = a.xs.length := by simp [lx]

/-! Memory told in another way. -/
section
variable {L L' L1 L2 R R1 R2 : List Ent} {τ : Type}
def Tr (L L' : List Ent) : Prop := ∀ (K : List Ent) (w0 w : World), Mem w0 (L ++ K) w → Mem w0 (L' ++ K) w
theorem Tr.mem (h : Tr L L') {w0 w : World} (hw : Mem w0 L w) : Mem w0 L' w := by
  have := h [] w0 w (by simpa using hw); simpa using this
theorem Tr.refl : Tr L L := fun _ _ _ h => h
theorem Tr.trans (h : Tr L L1) (h' : Tr L1 L2) : Tr L L2 := fun K w0 w hw => h' K w0 w (h K w0 w hw)
theorem Tr.perm (h : L.Perm L') : Tr L L' := fun K _ _ hw => Mem.perm hw (h.append_right K)
theorem Tr.left (h : Tr L L') (X : List Ent) : Tr (X ++ L) (X ++ L') := fun K w0 w hw => by
  have p : ∀ Y : List Ent, (X ++ Y ++ K).Perm (Y ++ (X ++ K)) := fun Y => by
    rw [List.append_assoc, ← List.append_assoc Y]
    refine (List.perm_append_comm_assoc X Y K).trans ?_
    rw [List.append_assoc]
  exact (h (X ++ K) w0 w (hw.perm (p L))).perm (p L').symm
theorem Tr.right (h : Tr L L') (X : List Ent) : Tr (L ++ X) (L' ++ X) := fun K w0 w hw => by
  rw [List.append_assoc] at hw ⊢; exact h (X ++ K) w0 w hw
theorem Tr.cons (h : Tr L L') (x : Ent) : Tr (x :: L) (x :: L') := h.left [x]
theorem Tr.sub (h : L'.Sublist L) : Tr L L' := fun K _ _ hw => Mem.sub hw (h.append (.refl K))
theorem Tr.front {e : Ent} {i : Nat} (hi : L[i]? = some e) : Tr L (e :: L.eraseIdx i) := .perm (perm_erase hi)
theorem Tr.back {e : Ent} {i : Nat} (hi : L[i]? = some e) : Tr (e :: L.eraseIdx i) L := .perm (perm_erase hi).symm
theorem Tr.emp : Tr (.emp :: L) L := fun _ _ _ hw => Mem.emp_iff.1 hw
theorem Tr.emp' : Tr L (.emp :: L) := fun _ _ _ hw => Mem.emp_iff.2 hw
theorem Tr.two {a b : Ent} : Tr (.two a b :: L) (a :: b :: L) := fun _ _ _ hw => Mem.two_iff.1 hw
theorem Tr.two' {a b : Ent} : Tr (a :: b :: L) (.two a b :: L) := fun _ _ _ hw => Mem.two_iff.2 hw
theorem Tr.open_sl [d : Deep τ] {a : Sl τ} : Tr (Deep.ent a :: L) (own (Deep.cells (τ := τ)) (Deep.c τ) a.sv a.xs :: a.xs.map d.ent ++ L) := fun K w0 w hw => by
  have := Mem.open_sl.1 hw
  simpa using this
theorem Tr.shut_sl [d : Deep τ] {a : Sl τ} : Tr (own (Deep.cells (τ := τ)) (Deep.c τ) a.sv a.xs :: a.xs.map d.ent ++ L) (Deep.ent a :: L) := fun K w0 w hw => by
  refine Mem.open_sl.2 ?_
  simpa using hw
/-- Types of values that reach nothing. -/
class Plain (τ : Type) [Deep τ] : Prop where
  h : ∀ x : τ, Deep.ent x = .emp
theorem Tr.plain [Deep τ] [p : Plain τ] : ∀ {xs : List τ}, Tr (xs.map Deep.ent ++ L) L
  | [] => .refl
  | x :: xs => by
    rw [List.map_cons, p.h]
    exact Tr.emp.trans Tr.plain
theorem Tr.plain' [Deep τ] [p : Plain τ] : ∀ {xs : List τ}, Tr L (xs.map Deep.ent ++ L)
  | [] => .refl
  | x :: xs => by
    rw [List.map_cons, p.h]
    exact (Tr.plain' (xs := xs)).trans Tr.emp'
theorem own_flat [Deep τ] {enc : τ → Array Value} {c : Nat} [f : FlatT τ enc c] (s : Sv) (xs : List τ) : own (Deep.cells (τ := τ)) (Deep.c τ) s xs = own enc c s xs := by
  have e : Deep.cells (τ := τ) = enc := funext f.h
  rw [e, f.hc]
theorem Tr.open_d [d : Deep τ] {enc : τ → Array Value} {c : Nat} [f : FlatT τ enc c] {a : Sl τ} : Tr (Deep.ent a :: L) (own enc c a.sv a.xs :: (a.xs.map d.ent ++ L)) := by
  rw [← own_flat]; exact Tr.open_sl
theorem Tr.shut_d [d : Deep τ] {enc : τ → Array Value} {c : Nat} [f : FlatT τ enc c] {a : Sl τ} : Tr (own enc c a.sv a.xs :: (a.xs.map d.ent ++ L)) (Deep.ent a :: L) := by
  rw [← own_flat]; exact Tr.shut_sl
theorem Tr.open_p [d : Deep τ] {enc : τ → Array Value} {c : Nat} [f : FlatT τ enc c] [Plain τ] {a : Sl τ} : Tr (Deep.ent a :: L) (own enc c a.sv a.xs :: L) := Tr.open_d.trans (Tr.plain.cons _)
theorem Tr.shut_p [d : Deep τ] {enc : τ → Array Value} {c : Nat} [f : FlatT τ enc c] [Plain τ] {a : Sl τ} : Tr (own enc c a.sv a.xs :: L) (Deep.ent a :: L) := (Tr.plain'.cons _).trans Tr.shut_d
/-- Element i of a slice of values that reach memory, taken out. -/
theorem map_erase {α β : Type} (f : α → β) {xs : List α} {i : Nat} {x : α} (hx : xs[i]? = some x) : (xs.map f).Perm (f x :: (xs.eraseIdx i).map f) := by
  have h1 := (perm_erase' hx).map f
  exact h1
where perm_erase' {α : Type} : ∀ {L : List α} {i : Nat} {e : α}, L[i]? = some e → L.Perm (e :: L.eraseIdx i)
  | [], i, e, h => by simp at h
  | x :: L, 0, e, h => by obtain rfl : x = e := by simpa using h
                          simp
  | x :: L, i + 1, e, h => by
    have := perm_erase' (L := L) (i := i) (e := e) (by simpa using h)
    rw [List.eraseIdx_cons_succ]
    exact (this.cons x).trans (.swap _ _ _)
theorem Tr.pick [d : Deep τ] {enc : τ → Array Value} {c : Nat} [f : FlatT τ enc c] {a : Sl τ} {i : Nat} {x : τ} (hx : a.xs[i]? = some x) :
    Tr (Deep.ent a :: L) (own enc c a.sv a.xs :: Deep.ent x :: ((a.xs.eraseIdx i).map d.ent ++ L)) :=
  Tr.open_d.trans (Tr.cons (Tr.right (Tr.perm (map_erase d.ent hx)) L) _)
theorem erase_set {α : Type} : ∀ (xs : List α) (i : Nat) (y : α), (xs.set i y).eraseIdx i = xs.eraseIdx i
  | [], _, _ => by simp
  | _ :: _, 0, _ => by simp
  | _ :: xs, i + 1, y => by simp [erase_set xs i y]
theorem Tr.lay [d : Deep τ] {enc : τ → Array Value} {c : Nat} [f : FlatT τ enc c] {s : Sv} {xs : List τ} {i : Nat} {y : τ} (hi : i < xs.length) :
    Tr (own enc c s (xs.set i y) :: Deep.ent y :: ((xs.eraseIdx i).map d.ent ++ L)) (Deep.ent (⟨s, xs.set i y⟩ : Sl τ) :: L) := by
  have hy : (xs.set i y)[i]? = some y := by simp [hi]
  have := (map_erase d.ent hy).symm
  rw [erase_set] at this
  exact (Tr.cons (Tr.right (Tr.perm this) L) _).trans (Tr.shut_d (a := ⟨s, xs.set i y⟩))

/-- x's own memory is in L; R is the rest. -/
class Take (L : List Ent) {τ : Type} [Deep τ] (x : τ) (R : outParam (List Ent)) : Prop where
  h : Tr L (Deep.ent x :: R)
class TakeL (L : List Ent) {τ : Type} [Deep τ] (xs : List τ) (R : outParam (List Ent)) : Prop where
  h : Tr L (xs.map Deep.ent ++ R)
instance (priority := high) Take.at [Deep τ] {x : τ} {i : Nat} [a : At L (Deep.ent x) i] [d : DelI L i R] : Take L x R := ⟨by
  have := Tr.front a.h; rwa [d.h] at this⟩
instance (priority := low) Take.plain [Deep τ] [p : Plain τ] {x : τ} : Take L x L := ⟨by rw [p.h]; exact Tr.emp'⟩
instance Take.own [Deep τ] [p : Plain τ] {enc : τ → Array Value} {c : Nat} [f : FlatT τ enc c] {s : Sv} {xs : List τ} {i : Nat} [a : At L (own enc c s xs) i] [d : DelI L i R] : Take L (⟨s, xs⟩ : Sl τ) R := ⟨by
  have := Tr.front a.h; rw [d.h] at this
  exact this.trans (Tr.shut_p (a := ⟨s, xs⟩))⟩
instance TakeL.nil [Deep τ] : TakeL L ([] : List τ) L := ⟨.refl⟩
instance TakeL.cons [Deep τ] {x : τ} {xs : List τ} [a : Take L x R1] [b : TakeL R1 xs R2] : TakeL L (x :: xs) R2 := ⟨a.h.trans (b.h.cons _)⟩
instance : Plain UInt8 := ⟨fun _ => rfl⟩
end

/-! Slices of values that reach memory. -/
section
variable {P : Program} {N : Fra} {w0 : World} {env : Env} {L R R1 R2 : List Ent} {l : List Oper} {Q : Exit → Act → World → Prop} {rest : List Oper} {d : Option Tmp} {ty : TypeId} {ps : String} {af : Array Edge}
variable {τ : Type} [dp : Deep τ] {enc : τ → Array Value} {c : Nat}
/-- append, in general: what the memory is told as ahead and behind. -/
theorem sq_appendG {α : Type} {enc : α → Array Value} {c : Nat} {s : Sv} {xs ys : List α} {t tx e : TypeId} {x y : Operand} {yv : Value} {by' : Nat} [ht : SlT P t e c by'] [he : Enc enc c] (R : List Ent) (hx : ev env x = some s.val) (hy : ev env y = some yv)
    (ho : ∀ w, Mem w0 L w → Mem w0 (own enc c s xs :: R) w) (hc : 0 < c) (hs : ∀ w, Mem w0 L w → Src P c tx yv ys.length (flatR enc ys) w) (hb : (xs.length + ys.length) * by' ≤ 140737488355328) (h63 : xs.length + ys.length ≤ 140737488355328)
    (hk : ∀ s' : Sv, Sq P N w0 l Q rest (putE env d s'.val) (own enc c s' (xs ++ ys) :: R)) (hd : dstOk N d = true := by rfl) :
    Sq P N w0 l Q (⟨d, .call { callee := .builtin .append, args := #[x, y], argTypes := #[t, tx] }, ty, ps, af, none⟩ :: rest) env L :=
  sq_run rfl hd fun a w ha hw => by
    obtain ⟨s', w', h1, h2, h3, h4⟩ := append_own (i := 0) (ty := ty) ht hc (ho w hw) rfl (hs w hw) hb h63
    refine ⟨s'.val, w', _, ?_, by simpa using h4, hk s'⟩
    simp [execOp, ha.ev hx, ha.ev hy, resolve, invoke, builtin, h1, Result.andThen]
/-- append of what is held alone to a slice that is. -/
theorem sq_appendD {s : Sv} {t tx e e' : TypeId} {x y : Operand} {by' m : Nat} [f : FlatT τ enc c] [ht : SlT P t e c by'] [ht' : SliceT P tx e' m] [he : Enc enc c] (a : Sl τ) (ys : List τ) (hx : ev env x = some a.sv.val) (hy : ev env y = some s.val) [q : Hd w0 L s enc c ys]
    [k1 : Take L a R1] [k2 : TakeL R1 ys R2] (hc : 0 < c) (hb : (a.xs.length + ys.length) * by' ≤ 140737488355328) (h63 : a.xs.length + ys.length ≤ 140737488355328)
    (hk : ∀ a' : Sl τ, a'.xs = a.xs ++ ys → Sq P N w0 l Q rest (putE env d a'.sv.val) (Deep.ent a' :: R2)) (hd : dstOk N d = true := by rfl) :
    Sq P N w0 l Q (⟨d, .call { callee := .builtin .append, args := #[x, y], argTypes := #[t, tx] }, ty, ps, af, none⟩ :: rest) env L :=
  sq_appendG (enc := enc) (c := c) (xs := a.xs) (ys := ys) (a.xs.map dp.ent ++ (ys.map dp.ent ++ R2)) hx hy (fun w hw => ((k1.h.trans (k2.h.cons _)).trans Tr.open_d).mem hw) hc (fun w hw => src_rows ht'.und hc (q.h w hw)) hb h63
    (fun s' aa w ha hw => hk ⟨s', a.xs ++ ys⟩ rfl aa w ha (by
      have t1 : Tr (own enc c s' (a.xs ++ ys) :: (a.xs.map dp.ent ++ (ys.map dp.ent ++ R2))) (Deep.ent (⟨s', a.xs ++ ys⟩ : Sl τ) :: R2) := by
        have := Tr.shut_d (enc := enc) (c := c) (a := (⟨s', a.xs ++ ys⟩ : Sl τ)) (L := R2)
        simpa using this
      exact t1.mem hw)) hd
/-- The nil slice. -/
theorem Mem.nilEnt {w : World} [f : FlatT τ enc c] (h : Mem w0 L w) : Mem w0 (Deep.ent (⟨Sv.none, []⟩ : Sl τ) :: L) w :=
  (Tr.shut_d (enc := enc) (c := c) (a := (⟨Sv.none, []⟩ : Sl τ)) (L := L)).mem (by simpa using h.nilOwn enc c)
theorem sq_ownD0 (τ : Type) [Deep τ] {enc : τ → Array Value} {c : Nat} [f : FlatT τ enc c] (h : Sq P N w0 l Q rest env (Deep.ent (⟨Sv.none, []⟩ : Sl τ) :: L)) : Sq P N w0 l Q rest env L := fun a w ha hw => h a w ha (Mem.nilEnt (enc := enc) (c := c) hw)
/-- Element i of a list of slices, nil where there is none. -/
def elAt {τ : Type} (s : Sl (Sl τ)) (i : Nat) : Sl τ := s.xs.getD i ⟨Sv.none, []⟩
theorem elAt_get {τ : Type} {s : Sl (Sl τ)} {i : Nat} {x : Sl τ} (h : s.xs[i]? = some x) : elAt s i = x := by simp [elAt, h]
theorem elAt_none {τ : Type} {s : Sl (Sl τ)} {i : Nat} (h : s.xs.length ≤ i) : elAt s i = ⟨Sv.none, []⟩ := by simp [elAt, h]
theorem elAt_xs {τ : Type} (s : Sl (Sl τ)) (i : Nat) : (elAt s i).xs = (lx s).getD i [] := by
  rcases Nat.lt_or_ge i s.xs.length with h | h
  · have : s.xs[i]? = some s.xs[i] := by simp [h]
    simp [elAt_get this, lx, h]
  · rw [elAt_none h]; simp [lx, h]
theorem good_none {h : Nat → Option Obj} : Deep.good h (⟨Sv.none, []⟩ : Sl τ) := ⟨Lies.nil _ _ _, fun _ hx => by cases hx⟩
def Sl.nil {τ : Type} : Sl τ := ⟨Sv.none, []⟩
instance HdD.none : HdD w0 L (Sl.nil : Sl τ) := ⟨fun _ _ => good_none⟩
instance HdD.elAt {s : Sl (Sl τ)} {i : Nat} [q : HdD w0 L s] : HdD w0 L (elAt s i) := ⟨fun w hw => by
  rcases Nat.lt_or_ge i s.xs.length with h | h
  · have hx : s.xs[i]? = some s.xs[i] := by simp [h]
    rw [elAt_get hx]; exact (q.h w hw).2 _ (List.mem_of_getElem? hx)
  · rw [elAt_none h]; exact good_none⟩
theorem Tr.nils {L : List Ent} [f : FlatT τ enc c] : ∀ n, Tr L ((List.replicate n (⟨Sv.none, []⟩ : Sl τ)).map Deep.ent ++ L)
  | 0 => .refl
  | n + 1 => by
    rw [List.replicate_succ, List.map_cons]
    exact (Tr.nils n).trans fun K w0 w hw => Mem.nilEnt (enc := enc) (c := c) hw
/-- make of a slice of slices. -/
theorem sq_makeD {t e : TypeId} {by' n cap : Nat} {x y : Operand} {k k' : IntKind} {ix iy : Int} [f : FlatT τ enc c] [ht : SlT P t e 1 by'] [hz : ZeroT P e (.slice none 0 0)] (hx : ev env x = some (.int k ix)) (hy : ev env y = some (.int k' iy)) (ex : ix = (n : Int)) (ey : iy = (cap : Int)) (hle : n ≤ cap) (hb : by' * cap ≤ 281474976710656) (h63 : cap ≤ 140737488355328)
    (hk : ∀ a : Sl (Sl τ), a.xs = List.replicate n ⟨Sv.none, []⟩ → Sq P N w0 l Q rest (putE env d a.sv.val) (Deep.ent a :: L)) (hd : dstOk N d = true := by rfl) :
    Sq P N w0 l Q (⟨d, .makeSlice t x y, ty, ps, af, none⟩ :: rest) env L :=
  sq_makeS (enc := scells (τ := τ)) (n := n) (cap := cap) (⟨Sv.none, []⟩ : Sl τ) rfl hx hy ex ey hle hb h63 (fun b a w ha hw => hk ⟨⟨false, b, 0, n, cap, none⟩, List.replicate n ⟨Sv.none, []⟩⟩ rfl a w ha
    (((Tr.nils (enc := enc) (c := c) n).cons _ |>.trans (Tr.shut_d (enc := scells) (c := 1) (a := (⟨⟨false, b, 0, n, cap, none⟩, List.replicate n ⟨Sv.none, []⟩⟩ : Sl (Sl τ))))).mem hw)) hd
end

section
variable {P : Program} {N : Fra} {w0 : World} {env : Env} {L : List Ent} {l : List Oper} {Q : Exit → Act → World → Prop} {rest : List Oper} {d : Option Tmp} {ty : TypeId} {ps : String} {af : Array Edge}
/-- copy of all of a slice into a block of the call's own. -/
theorem sq_copyS {α : Type} {enc : α → Array Value} {x y : Operand} {tx tys e : TypeId} {i b o dl dc : Nat} {sv : Sv} {ys : List α} {cs : Array Value} {T : TypeId} (hx : ev env x = some (.slice (some ⟨b, o, none⟩) dl dc)) (hy : ev env y = some sv.val)
    [ht : SliceT P tx e 1] [hh : Has L b cs T i] [q : Hd w0 L sv enc 1 ys] [he : Enc enc 1] (h0 : 0 < ys.length) (hl : ys.length ≤ dl) (ho : o + ys.length ≤ cs.size)
    {cs' : Array Value} {L' : List Ent} (hcs : over cs o (flatR enc ys).toArray = cs') [hu : Upd L i (blk b cs' T) L'] (hk : Sq P N w0 l Q rest (putE env d (.int .i64 (ys.length : Nat))) L') (hd : dstOk N d = true := by rfl) :
    Sq P N w0 l Q (⟨d, .call { callee := .builtin .copy, args := #[x, y], argTypes := #[tx, tys] }, ty, ps, af, none⟩ :: rest) env L := fun a w ha hw => by
  have r := q.h w hw
  have hn := r.some (i := 0) h0
  have hlen := r.len
  rw [Sv.val_some hn, r.ok.sp (by have := r.ok.le; omega)] at hy
  have hs : (flatR enc ys).toArray.size = ys.length := by rw [List.size_toArray, flatR_length, Nat.mul_one]
  have hk' := hk
  rw [← hs] at hk'
  refine sq_copy (vs := (flatR enc ys).toArray) hx hy ?_ (fun w hw j hj => ?_) ?_ (by rw [hs]; exact ho) hcs hk' hd a w ha hw
  · rw [hs]; simp only [Nat.min_def]; split <;> omega
  · rw [hs] at hj
    have := flatR_get (enc := enc) ys j ys[j] (by simp [hj]) 0 (by decide)
    have r2 := (q.h w hw).row j ys[j] (by simp [hj]) 0 (by decide)
    simp only [Nat.mul_one, Nat.add_zero] at this r2
    rw [Addr.add_none, cell_hp, r2, ← this]; simp
  · rw [Array.all_eq_true_iff_forall_mem]; intro v hv; exact flatR_one (enc := enc) ys v (by simpa using hv)
end

theorem Sv.cells_val (s : Sv) : s.val.cells = #[s.val] := by unfold Sv.val; split <;> rfl
/-- One slice of a slice of slices, in hand; and laid back. -/
theorem Tr.pick1 {τ : Type} [Deep τ] [Plain τ] {enc : τ → Array Value} {c : Nat} [FlatT τ enc c] {a : Sl (Sl τ)} {x : Sl τ} {i : Nat} {B : List Ent} (hx : a.xs[i]? = some x) :
    Tr (B ++ [Deep.ent a]) (own scells 1 a.sv a.xs :: own enc c x.sv x.xs :: (B ++ (a.xs.eraseIdx i).map Deep.ent)) := by
  refine (Tr.perm (List.perm_append_comm (l₁ := B) (l₂ := [Deep.ent a]))).trans ?_
  refine (Tr.pick (L := B) hx).trans (Tr.cons (Tr.open_p.trans (Tr.cons (Tr.perm List.perm_append_comm) _)) _)
theorem Tr.lay1 {τ : Type} [Deep τ] [Plain τ] {enc : τ → Array Value} {c : Nat} [FlatT τ enc c] {s y : Sv} {xs : List (Sl τ)} {ys : List τ} {i : Nat} {B : List Ent} (hi : i < xs.length) :
    Tr (own scells 1 s (xs.set i ⟨y, ys⟩) :: own enc c y ys :: (B ++ (xs.eraseIdx i).map Deep.ent)) (Deep.ent (⟨s, xs.set i ⟨y, ys⟩⟩ : Sl (Sl τ)) :: B) := by
  refine Tr.trans ?_ (Tr.lay (L := B) hi)
  exact Tr.cons ((Tr.shut_p (a := (⟨y, ys⟩ : Sl τ))).trans (Tr.cons (Tr.perm List.perm_append_comm) _)) _

theorem sq_storeSv {P : Program} {N : Fra} {w0 : World} {env : Env} {L : List Ent} {l : List Oper} {Q : Exit → Act → World → Prop} {rest : List Oper} {ty : TypeId} {ps : String} {af : Array Edge} {τ : Type} {t : TypeId} {x y : Operand} {i k p : Nat} {s : Sv} {xs : List (Sl τ)} {a : Sl τ} (a' : Sl τ)
    (sz : (P.info? t).map (·.size) = some 1) (hx : ev env x = some (.pointer (some ⟨s.b, p, none⟩))) (hy : ev env y = some a'.sv.val) [q : Owns L s (scells (τ := τ)) 1 xs i] (hp' : p = s.o + k * 1) (ha : xs[k]? = some a) {L' : List Ent} [hu : Upd L i (own scells 1 s (xs.set k a')) L'] (hk : Sq P N w0 l Q rest env L') :
    Sq P N w0 l Q (⟨none, .store t x y, ty, ps, af, none⟩ :: rest) env L :=
  sq_storeS (j := 0) (a' := a') sz hx hy (q := q) hp' ha (by rw [Sv.cells_val]; simp [Sv.one]) (by rw [Sv.cells_val]; rfl) (by decide) (by rw [Sv.cells_val]; rfl) hk

/-! Guards that are known. -/
section
variable {P : Program} {N : Fra} {w0 : World} {env : Env} {L : List Ent} {l : List Oper} {Q : Exit → Act → World → Prop} {rest : List Oper} {d : Option Tmp} {ty : TypeId} {ps : String} {af : Array Edge} {gd : Option (Nat × Bool)}
variable {fs : List Nat} {F : Act → Prop} {k : Nat}
theorem sq_ty {o : Oper} {v : Value} {j t : Nat} {b g : Bool} (hg : o.guard = some (j, b)) (hj : (l[j]?).bind (·.dst) = some t) (hv : look env t = some (.bool g)) (ht : g = b) (h : Yl P N w0 env L o v)
    (hk : Sq P N w0 l Q rest (putE env o.dst v) L) (hd : dstOk N o.dst = true := by rfl) : Sq P N w0 l Q (o :: rest) env L := fun a w ha hw => by
  unfold wpList
  rw [wanted_some ha hg hj hv, ht, beq_self_eq_true, if_pos rfl]
  exact .inl (wp_of_yl ha hw h fun w' hw' => hk _ _ (ha.put hd v) hw')
theorem qt_ty {o : Oper} {v : Value} {j t : Nat} {b g : Bool} (hg : o.guard = some (j, b)) (hj : (l[j]?).bind (·.dst) = some t) (hv : look env t = some (.bool g)) (ht : g = b) (h : Yl P N w0 env L o v)
    (hk : Qt P N w0 l fs F (k + 1) rest (putE env o.dst v) L) (hd : dstOk N o.dst = true := by rfl) (hf : fs.contains k = false := by rfl) : Qt P N w0 l fs F k (o :: rest) env L := fun a ha => by
  unfold wpHead
  rw [if_neg (by rw [hf]; exact Bool.false_ne_true), wanted_some ha hg hj hv, ht, beq_self_eq_true, if_pos rfl]
  exact ⟨v, h a ha, hk _ (ha.put hd v)⟩
theorem sq_tcallC {X : Type} {val : X → Value} {L' : X → List Ent} {pr : X → Prop} {pre : Prop} {f : FuncId} {xs : List Operand} {ts : Array TypeId} {vs : List Value} {j t : Nat} {b g : Bool} (hj : (l[j]?).bind (·.dst) = some t) (hv : look env t = some (.bool g)) (ht : g = b) [hf : IsFn P f] (hx : evl env xs = some vs)
    [hc : FnC P f w0 L vs X val L' pr pre] (hp : pre) (hk : ∀ x, pr x → Sq P N w0 l Q rest (putE env d (val x)) (L' x)) (hd : dstOk N d = true := by rfl) :
    Sq P N w0 l Q (⟨d, .call { callee := .value (.func f), args := xs.toArray, argTypes := ts }, ty, ps, af, some (j, b)⟩ :: rest) env L := fun a w ha hw => by
  unfold wpList
  rw [wanted_some ha rfl hj hv, ht, beq_self_eq_true, if_pos rfl]
  refine .inl ?_
  unfold Oper.wp
  rw [run_call hf w rfl, ha.evl hx]
  exact (hc.h hp w hw).mono fun e w' ⟨x, he, hpx, hm⟩ => by subst he; exact hk x hpx _ _ (ha.put hd _) hm
/-- A guard that is known not to hold: nothing is done. -/
theorem sq_fy {o : Oper} {j t : Nat} {b g : Bool} (hg : o.guard = some (j, b)) (hj : (l[j]?).bind (·.dst) = some t) (hv : look env t = some (.bool g)) (ht : g = !b)
    (hk : Sq P N w0 l Q rest (putE env o.dst undef) L) (hd : dstOk N o.dst = true := by rfl) : Sq P N w0 l Q (o :: rest) env L := fun a w ha hw => by
  unfold wpList
  rw [wanted_some ha hg hj hv, ht, if_neg (by cases b <;> simp)]
  exact hk _ _ (ha.put hd undef) hw
end
theorem ry_pickT {P : Program} {N : Fra} {w0 : World} {env : Env} {L : List Ent} {d : Option Tmp} {ty : TypeId} {ps : String} {af : Array Edge} {gd : Option (Nat × Bool)} {c x y : Operand} {g : Bool} {v : Value} (hc : ev env c = some (.bool g)) (ht : g = true) (hx : ev env x = some v) (hy : ev env y = some (.bool false)) :
    Ry P N w0 env L ⟨d, .pick c x y, ty, ps, af, gd⟩ v := by
  subst ht
  have h := ry_pick (P := P) (N := N) (w0 := w0) (L := L) (d := d) (ty := ty) (ps := ps) (af := af) (gd := gd) hc hx hy
  simpa using h
theorem ry_pickF {P : Program} {N : Fra} {w0 : World} {env : Env} {L : List Ent} {d : Option Tmp} {ty : TypeId} {ps : String} {af : Array Edge} {gd : Option (Nat × Bool)} {c x y : Operand} {g : Bool} {v : Value} (hc : ev env c = some (.bool g)) (ht : g = false) (hx : ev env x = some (.bool true)) (hy : ev env y = some v) :
    Ry P N w0 env L ⟨d, .pick c x y, ty, ps, af, gd⟩ v := by
  subst ht
  have h := ry_pick (P := P) (N := N) (w0 := w0) (L := L) (d := d) (ty := ty) (ps := ps) (af := af) (gd := gd) hc hx hy
  simpa using h
end Go.Eng
