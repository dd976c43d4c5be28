/- Bytes: as cells, in slices, as numbers. -/
import Derived.Test.YtldkgicmfbofiaaDoorSm
import Derived.Laws.IdiomStrings
import Derived.Laws.Strings
set_option linter.unusedSimpArgs false
set_option linter.unusedVariables false
namespace Go.Eng

def benc (b : UInt8) : Array Value := #[.int .u8 b.toNat]
instance : Enc benc 1 := ⟨fun _ => rfl, fun _ => by simp [benc, Value.oneCell']⟩
instance (b : UInt8) : CellAt (benc b) 0 (.int .u8 b.toNat) := ⟨rfl⟩
/-- A slice, as an element. -/
def senc (s : Sv) : Array Value := #[s.val]
instance : Enc senc 1 := ⟨fun _ => rfl, fun s => by simp [senc, Sv.one]⟩
/-- A slice of slices of bytes. -/
structure Lies2 (h : Nat → Option Obj) (s : Sv) (ss : List Sv) (xss : List (List UInt8)) : Prop where
  out : Lies senc 1 h s ss
  len : ss.length = xss.length
  row : ∀ (i : Nat) t, ss[i]? = some t → ∃ xs, xss[i]? = some xs ∧ Lies benc 1 h t xs

/-- A number's last byte. -/
def b8 (n : Nat) : UInt8 := UInt8.ofNat n
theorem b8_toNat (n : Nat) : (b8 n).toNat = n % 256 := by simp [b8]
theorem b8_mod (n : Nat) : b8 (n % 256) = b8 n := by
  apply UInt8.toNat_inj.1; simp [b8_toNat]
theorem wrap_b8 (n : Nat) : IntKind.u8.wrap (n : Int) = ((b8 n).toNat : Int) := by
  rw [b8_toNat]; simp [IntKind.wrap, IntKind.bits, IntKind.signed]
theorem b8_of (b : UInt8) : b8 b.toNat = b := by
  apply UInt8.toNat_inj.1; rw [b8_toNat]; have := b.toNat_lt; omega

/-- The last `many` bytes of a number, the greatest first. -/
def be (n : Nat) : Nat → List UInt8
  | 0 => []
  | k + 1 => b8 (n / 256 ^ k) :: be n k
theorem be_length (n : Nat) : ∀ k, (be n k).length = k
  | 0 => rfl
  | k + 1 => by simp [be, be_length n k]

/-- Bytes as a number. -/
def de (l : List UInt8) : Nat := l.foldl (fun a b => a * 256 + b.toNat) 0
theorem de_succ {xs : List UInt8} {i : Nat} {b : UInt8} (h : xs[i]? = some b) : de (xs.take (i + 1)) = de (xs.take i) * 256 + b.toNat := by
  rw [List.take_add_one, h]; simp [de]
theorem de_lt (xs : List UInt8) : ∀ i, i ≤ xs.length → de (xs.take i) < 256 ^ i
  | 0, _ => by simp [de]
  | i + 1, h => by
    have := de_lt xs i (by omega)
    rw [de_succ (b := xs[i]) (by simp), Nat.pow_succ]
    have := xs[i].toNat_lt; omega
section
variable {P : Program} {N : Fra} {w0 : World} {env : Env} {L : List Ent} {d : Option Tmp} {ty : TypeId} {ps : String} {af : Array Edge} {gd : Option (Nat × Bool)}
variable {x y : Operand} {k k' : IntKind} {p q : Nat} {t u s : TypeId}
theorem ry_quon {a b : Int} (hx : ev env x = some (.int k a)) (hy : ev env y = some (.int k b)) (ea : a = p) (eb : b = q) (hp : p < 2 ^ nb k) (hq : 0 < q) :
    Ry P N w0 env L ⟨d, .binOp .quo t x y u, ty, ps, af, gd⟩ (.int k ((p / q : Nat) : Int)) := ry_int hx hy (by
  subst ea eb
  rw [intOp, if_neg (by omega), ← Int.ofNat_tdiv, wrap_nat (Nat.lt_of_le_of_lt (Nat.div_le_self _ _) hp)])
theorem ry_remn {a b : Int} (hx : ev env x = some (.int k a)) (hy : ev env y = some (.int k b)) (ea : a = p) (eb : b = q) (hq : 0 < q) :
    Ry P N w0 env L ⟨d, .binOp .rem t x y u, ty, ps, af, gd⟩ (.int k ((p % q : Nat) : Int)) := ry_int hx hy (by
  subst ea eb
  rw [intOp, if_neg (by omega), ← Int.ofNat_tmod])
theorem ry_muln {a b : Int} (hx : ev env x = some (.int k a)) (hy : ev env y = some (.int k b)) (ea : a = p) (eb : b = q) (h : p * q < 2 ^ nb k) :
    Ry P N w0 env L ⟨d, .binOp .mul t x y u, ty, ps, af, gd⟩ (.int k ((p * q : Nat) : Int)) := ry_int hx hy (by
  subst ea eb
  rw [intOp, ← Int.natCast_mul, wrap_nat h])
/-- A number as a byte. -/
theorem ry_conv8 {n : Nat} {a : Int} [hs : IntT P s k'] [ht : IntT P t .u8] (hx : ev env x = some (.int k' a)) (ea : a = n) :
    Ry P N w0 env L ⟨d, .convert s t x, ty, ps, af, gd⟩ (.int .u8 (b8 n).toNat) := ry_conv hx (by subst ea; exact wrap_b8 n)
/-- Bytes as a text. -/
theorem ry_bstr {e : TypeId} {sv : Sv} {xs : List UInt8} (hs : P.underlying s = some (.slice e)) (he : P.underlying e = some (.int .u8)) (hd : P.underlying t = some .string) (hx : ev env x = some sv.val) (hR : Holds w0 L benc 1 sv xs) :
    Ry P N w0 env L ⟨d, .convert s t x, ty, ps, af, gd⟩ (.string ⟨xs.toArray⟩) := fun a w ha hw => by
  have r := hR w hw
  have hr : (convert s t sv.val).run P w = .ok (.string ⟨xs.toArray⟩) w := by
    cases hn : sv.nil with
    | true =>
      have : xs = [] := by have := (r.ok.nil hn).1; rw [r.len] at this; exact List.length_eq_zero_iff.1 this
      subst this
      rw [Sv.val_nil hn, run_convert_bytes_string w s t e none 0 0 hs he hd]
      rfl
    | false =>
      rw [Sv.val_some hn, r.len]
      refine run_convert_bytes_back w s t e _ _ xs hs he hd fun j hj => ?_
      rw [r.ok.sp (by have := r.len; have := r.ok.le; omega)]
      rw [Addr.add_none, cell_hp]
      have := r.row j xs[j] (by simp) 0 (by decide)
      simp only [Nat.mul_one, Nat.add_zero] at this
      rw [this]; rfl
  simp only [execOp, ha.ev hx, Sem.run_bind, hr, Result.andThen, Sem.run_pure]
theorem ry_streql {a b : ByteArray} (hx : ev env x = some (.string a)) (hy : ev env y = some (.string b)) :
    Ry P N w0 env L ⟨d, .binOp .eql t x y u, ty, ps, af, gd⟩ (.bool (a.toList == b.toList)) := fun aa w ha _ => by
  have h2 : (eqGuard BinOp.eql t x y (.string a) (.string b)).run P w = .ok () w := rfl
  simp only [execOp, ha.ev hx, ha.ev hy, Sem.run_bind, h2, Result.andThen_ok, binOp_string_eql, Sem.run_pure]
theorem ry_strneq {a b : ByteArray} (hx : ev env x = some (.string a)) (hy : ev env y = some (.string b)) :
    Ry P N w0 env L ⟨d, .binOp .neq t x y u, ty, ps, af, gd⟩ (.bool (!(a.toList == b.toList))) := fun aa w ha _ => by
  have h2 : (eqGuard BinOp.neq t x y (.string a) (.string b)).run P w = .ok () w := rfl
  simp only [execOp, ha.ev hx, ha.ev hy, Sem.run_bind, h2, Result.andThen_ok, binOp_string_neq, Sem.run_pure]
end
section
variable {P : Program} {N : Fra} {w0 : World} {env : Env} {L : List Ent} {l : List Oper} {Q : Exit → Act → World → Prop} {rest : List Oper} {d : Option Tmp} {ty : TypeId} {ps : String} {af : Array Edge}
open Go.RowKit in
/-- A text as bytes. -/
theorem run_strb {s t e : TypeId} (hs : P.underlying s = some .string) (hd : P.underlying t = some (.slice e)) (he : P.underlying e = some (.int .u8)) (xs : List UInt8) (hl : xs.length ≤ 140737488355328) (w : World) :
    ∃ sv w', (convert s t (.string ⟨xs.toArray⟩)).run P w = .ok (Sv.val sv) w' ∧ Mem w [own benc 1 sv xs] w' := by
  have hr := run_bytes_of_string (P := P) w s t e ⟨xs.toArray⟩ hs hd he
  have hge := grownCap_ge w xs.length 0 e
  generalize hC : grownCap w (ByteArray.size ⟨xs.toArray⟩) 0 e = C at hr
  have hbs : (⟨xs.toArray⟩ : ByteArray).size = xs.length := by simp [ByteArray.size]
  have hC' : xs.length ≤ C := by rw [← hC, hbs]; exact hge
  rw [hbs] at hr
  refine ⟨⟨false, w.heap.size, 0, xs.length, C, none⟩, _, hr, ?_⟩
  have hsz : (bytesRow ⟨xs.toArray⟩ C).size = C := by rw [bytesRow, hbs]; simp; omega
  generalize hcs : bytesRow ⟨xs.toArray⟩ C = cs at hsz
  have hblk : hp (w.drew.alloc (.cells cs e (cs.size, cs.size + 1))) w.heap.size = some (.cells cs e (cs.size, cs.size + 1)) := Below.heap_new w.drew _
  refine ⟨((Below.refl _ _).drew).alloc (by simp) _, fun q hq => ?_, fun q hq k hk => ?_, by simp⟩
  · obtain rfl := List.mem_singleton.1 hq
    refine ⟨rows_of ⟨(fun h => by cases h), hC', hl, fun _ => rfl⟩ rfl hblk fun i x hx j hj => ?_, fun _ => ⟨rfl, _, _, _, hblk, by simp [hsz], fun j hj h => by have := h.1; simp at this; omega, fun h => by omega⟩⟩
    obtain rfl : j = 0 := by omega
    have hi : i < xs.length := (List.getElem?_eq_some_iff.1 hx).1
    have e1 : xs[i] = x := by simpa [hi] using hx
    simp only [Nat.zero_add, Nat.mul_one, Nat.add_zero]
    rw [← hcs, bytesRow, Array.getElem?_append_left (by simp; exact hi)]
    simp [benc, hi, e1]
  · obtain rfl := List.mem_singleton.1 hq
    obtain rfl : k = w.heap.size := hk.2
    simp
theorem sq_strb {s t e : TypeId} {x : Operand} {xs : List UInt8} (hs : P.underlying s = some .string) (hd : P.underlying t = some (.slice e)) (he : P.underlying e = some (.int .u8)) (hx : ev env x = some (.string ⟨xs.toArray⟩)) (hl : xs.length ≤ 140737488355328)
    (hk : ∀ sv, Sq P N w0 l Q rest (putE env d (Sv.val sv)) (own benc 1 sv xs :: L)) (hdd : dstOk N d = true := by rfl) :
    Sq P N w0 l Q (⟨d, .convert s t x, ty, ps, af, none⟩ :: rest) env L :=
  sq_run rfl hdd fun a w ha hw => by
    obtain ⟨sv, w', h1, h2⟩ := run_strb hs hd he xs hl w
    exact ⟨_, w', _, by simp only [execOp, ha.ev hx, Sem.run_bind, h1, Result.andThen, Sem.run_pure], hw.call h2, hk sv⟩
end

/-- Two bytes as a number. -/
def hop16 (b c : UInt8) : UInt16 := UInt16.ofNat (b.toNat * 256 + c.toNat)
theorem hop16_toNat (b c : UInt8) : (hop16 b c).toNat = b.toNat * 256 + c.toNat := by
  have := b.toNat_lt; have := c.toNat_lt
  simp [hop16]; omega
theorem or_low (p q : Nat) (h : q < 256) : (p * 256) ||| q = p * 256 + q := by
  have := Nat.two_pow_add_eq_or_of_lt (i := 8) (b := q) (by simpa using h) p
  rw [show (2 ^ 8 * p) = p * 256 by rw [Nat.mul_comm]] at this
  exact this.symm
section
variable {P : Program} {N : Fra} {w0 : World} {env : Env} {L : List Ent} {d : Option Tmp} {ty : TypeId} {ps : String} {af : Array Edge} {gd : Option (Nat × Bool)} {x y : Operand} {k : IntKind} {t u : TypeId}
theorem ry_shl8 {b : UInt8} {k' : IntKind} (hx : ev env x = some (.int k b.toNat)) (hy : ev env y = some (.int k' 8)) (hk : k = .u16 ∨ k = .i64 := by decide) :
    Ry P N w0 env L ⟨d, .binOp .shl t x y u, ty, ps, af, gd⟩ (.int k ((b.toNat * 256 : Nat) : Int)) := by
  have h := ry_shl (P := P) (N := N) (w0 := w0) (L := L) (d := d) (ty := ty) (ps := ps) (af := af) (gd := gd) (t := t) (u := u) hx hy (by decide)
  have hb := b.toNat_lt
  have e : k.wrap ((b.toNat : Int) * 2 ^ min (Int.toNat 8) k.bits) = ((b.toNat * 256 : Nat) : Int) := by
    rcases hk with rfl | rfl <;> simp [IntKind.wrap, IntKind.bits, IntKind.signed] <;> omega
  rw [e] at h; exact h
theorem ry_or8 {b c : UInt8} (hx : ev env x = some (.int k ((b.toNat * 256 : Nat) : Int))) (hy : ev env y = some (.int k c.toNat)) (hk : k = .u16 ∨ k = .i64 := by decide) :
    Ry P N w0 env L ⟨d, .binOp .or t x y u, ty, ps, af, gd⟩ (.int k ((hop16 b c).toNat : Nat)) := by
  have hb := b.toNat_lt; have hc := c.toNat_lt
  rw [hop16_toNat, ← or_low _ _ hc]
  rcases hk with rfl | rfl
  · exact ry_bor hx hy rfl rfl (by simp only [nb]; omega) (by simp only [nb]; omega)
  · exact ry_bor hx hy rfl rfl (by simp only [nb]; omega) (by simp only [nb]; omega)
end
end Go.Eng
