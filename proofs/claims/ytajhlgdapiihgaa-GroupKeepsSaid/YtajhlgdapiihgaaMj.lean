/- The sum of bytes: one byte changed is another sum. No program in sight. -/
import Derived.Test.YtajhlgdapiihgaaMa
import Derived.Test.YtajhlgdapiihgaaMb
import Derived.Lib.AppendZeros
import Derived.Test.YtajhlgdapiihgaaMc

set_option linter.unusedSimpArgs false
set_option linter.unusedVariables false
namespace Go.Kb

def crcP : Nat := 3988292384
def crcT (n : Nat) : Nat := (n / 2) ^^^ (if n % 2 = 1 then crcP else 0)
theorem crcT_lt {n : Nat} (h : n < 2 ^ 32) : crcT n < 2 ^ 32 := by
  refine Nat.xor_lt_two_pow (by omega) ?_
  split
  · decide
  · decide
theorem crcT_bit {n : Nat} (h : n < 2 ^ 32) : (crcT n).testBit 31 = decide (n % 2 = 1) := by
  have h1 : (n / 2).testBit 31 = false := Nat.testBit_lt_two_pow (by omega)
  rw [crcT, Nat.testBit_xor, h1]
  by_cases e : n % 2 = 1
  · rw [if_pos e, decide_eq_true e]; decide
  · rw [if_neg e, decide_eq_false e]; decide
theorem crcT_inj {a b : Nat} (ha : a < 2 ^ 32) (hb : b < 2 ^ 32) (h : crcT a = crcT b) : a = b := by
  have h1 := crcT_bit ha
  rw [h, crcT_bit hb] at h1
  have h2 : a % 2 = b % 2 := by
    by_cases e : b % 2 = 1
    · rw [decide_eq_true e] at h1; have := of_decide_eq_true h1.symm; omega
    · rw [decide_eq_false e] at h1; have := of_decide_eq_false h1.symm; omega
  have h3 := congrArg (fun x => x ^^^ (if b % 2 = 1 then crcP else 0)) h
  simp only [crcT, h2, Nat.xor_assoc, Nat.xor_self, Nat.xor_zero] at h3
  omega
def crcN (n : Nat) : Nat → Nat
  | 0 => n
  | k + 1 => crcT (crcN n k)
theorem crcN_lt {n : Nat} (h : n < 2 ^ 32) : ∀ k, crcN n k < 2 ^ 32
  | 0 => h
  | k + 1 => crcT_lt (crcN_lt h k)
theorem crcN_inj {a b : Nat} (ha : a < 2 ^ 32) (hb : b < 2 ^ 32) : ∀ k, crcN a k = crcN b k → a = b
  | 0, h => h
  | k + 1, h => crcN_inj ha hb k (crcT_inj (crcN_lt ha k) (crcN_lt hb k) h)
def crcB (n : Nat) (b : UInt8) : Nat := crcN (n ^^^ b.toNat) 8
theorem crcB_lt {n : Nat} {b : UInt8} (h : n < 2 ^ 32) : crcB n b < 2 ^ 32 := crcN_lt (Nat.xor_lt_two_pow h (by have := b.toNat_lt; omega)) 8
theorem xor_cancel {a b c : Nat} (h : a ^^^ c = b ^^^ c) : a = b := by
  have := congrArg (fun x => x ^^^ c) h
  simpa only [Nat.xor_assoc, Nat.xor_self, Nat.xor_zero] using this
theorem crcB_inj {a b : Nat} {x : UInt8} (ha : a < 2 ^ 32) (hb : b < 2 ^ 32) (h : crcB a x = crcB b x) : a = b :=
  xor_cancel (crcN_inj (Nat.xor_lt_two_pow ha (by have := x.toNat_lt; omega)) (Nat.xor_lt_two_pow hb (by have := x.toNat_lt; omega)) 8 h)
theorem crcB_byte {a : Nat} {x y : UInt8} (ha : a < 2 ^ 32) (h : crcB a x = crcB a y) : x = y := by
  have := crcN_inj (Nat.xor_lt_two_pow ha (by have := x.toNat_lt; omega)) (Nat.xor_lt_two_pow ha (by have := y.toNat_lt; omega)) 8 h
  rw [Nat.xor_comm a, Nat.xor_comm a] at this
  exact UInt8.toNat_inj.1 (xor_cancel this)
def crcS (n : Nat) (l : List UInt8) : Nat := l.foldl crcB n
theorem crcS_lt {n : Nat} (h : n < 2 ^ 32) : ∀ l, crcS n l < 2 ^ 32
  | [] => h
  | b :: l => crcS_lt (crcB_lt h) l
theorem crcS_inj {a b : Nat} (ha : a < 2 ^ 32) (hb : b < 2 ^ 32) : ∀ l, crcS a l = crcS b l → a = b
  | [], h => h
  | x :: l, h => crcB_inj ha hb (crcS_inj (crcB_lt ha) (crcB_lt hb) l h)
theorem crcS_snoc {n : Nat} {l : List UInt8} {i : Nat} {b : UInt8} (h : l[i]? = some b) : crcS n (l.take (i + 1)) = crcB (crcS n (l.take i)) b := by
  rw [List.take_add_one, h, crcS, crcS, List.foldl_append]; rfl
/-- The sum. -/
def crc (l : List UInt8) : Nat := 4294967295 - crcS 4294967295 l
theorem crc_lt (l : List UInt8) : crc l < 2 ^ 32 := by unfold crc; omega
theorem crc_one {l : List UInt8} {i : Nat} {x y : UInt8} (hx : l[i]? = some x) (hne : x ≠ y) : crc (l.set i y) ≠ crc l := by
  have h0 : (4294967295 : Nat) < 2 ^ 32 := by decide
  obtain ⟨hi, hx'⟩ := List.getElem?_eq_some_iff.1 hx
  have e1 : l = l.take i ++ x :: l.drop (i + 1) := by rw [← hx', List.getElem_cons_drop, List.take_append_drop]
  have e2 : l.set i y = l.take i ++ y :: l.drop (i + 1) := by rw [List.set_eq_take_append_cons_drop, if_pos hi]
  intro h
  have k1 := crcS_lt h0 l
  have k2 := crcS_lt h0 (l.set i y)
  have h3 : crcS 4294967295 (l.set i y) = crcS 4294967295 l := by unfold crc at h; omega
  rw [e2] at h3
  rw [e1] at h3
  have h4 : crcS (crcB (crcS 4294967295 (l.take i)) y) (l.drop (i + 1)) = crcS (crcB (crcS 4294967295 (l.take i)) x) (l.drop (i + 1)) := by
    have := h3
    simp only [crcS, List.foldl_append, List.foldl_cons] at this ⊢
    rw [← e1] at this
    exact this
  have k3 := crcS_lt h0 (l.take i)
  exact hne (crcB_byte k3 (crcS_inj (crcB_lt k3) (crcB_lt k3) _ h4)).symm
end Go.Kb

/- The complement of a number of 32 bits; steps of the sum. -/
set_option linter.unusedSimpArgs false
set_option linter.unusedVariables false
namespace Go.Eng
open Go.Kb
section
variable {P : Program} {N : Fra} {w0 : World} {env : Env} {L : List Ent} {d : Option Tmp} {ty : TypeId} {ps : String} {af : Array Edge} {gd : Option (Nat × Bool)}
theorem compl_nat {p : Nat} (h : p < 2 ^ 32) : 4294967295 ^^^ p = 4294967295 - p := by
  have e : (BitVec.allOnes 32 ^^^ BitVec.ofNat 32 p).toNat = (~~~ (BitVec.ofNat 32 p)).toNat := by rw [BitVec.allOnes_xor]
  rw [BitVec.toNat_xor, BitVec.toNat_not, BitVec.toNat_allOnes, BitVec.toNat_ofNat, Nat.mod_eq_of_lt h] at e
  simpa using e
theorem ry_compl32 {x : Operand} {a : Int} {p : Nat} {t : TypeId} (hx : ev env x = some (.int .u32 a)) (ea : a = (p : Int)) (hp : p < 2 ^ 32) :
    Ry P N w0 env L ⟨d, .unOp .xor t x, ty, ps, af, gd⟩ (.int .u32 ((4294967295 - p : Nat) : Int)) := fun a w ha _ => by
  subst ea
  have h1 : (Op.intBits .xor .u32 4294967295 (p : Int)).run P w = .ok (.int .u32 ((4294967295 - p : Nat) : Int)) w := by
    have e2 : (BitVec.ofInt 32 4294967295 ^^^ BitVec.ofInt 32 (p : Int)).toNat = 4294967295 - p := by
      rw [ofInt_nat, BitVec.toNat_xor, BitVec.toNat_ofNat, Nat.mod_eq_of_lt hp, ← compl_nat hp]; rfl
    show Sem.run P (pure (Value.int .u32 (IntKind.u32.wrap ((BitVec.ofInt 32 4294967295 ^^^ BitVec.ofInt 32 (p : Int)).toNat : Int)))) w = _
    rw [e2, wrap_nat (k := .u32) (by show 4294967295 - p < 4294967296; omega)]; rfl
  have h2 : Op.unary .xor (.int .u32 (p : Int)) = Op.intBits .xor .u32 4294967295 (p : Int) := rfl
  simp only [execOp, ha.ev hx, h2, Sem.run_bind, h1, Sem.run_pure, Result.andThen]
theorem ry_shl64 {x y : Operand} {p : Nat} {a : Int} {k' : IntKind} {t u : TypeId} (hx : ev env x = some (.int .u64 a)) (hy : ev env y = some (.int k' 8)) (ea : a = (p : Int)) (hp : p * 256 < 2 ^ 64) :
    Ry P N w0 env L ⟨d, .binOp .shl t x y u, ty, ps, af, gd⟩ (.int .u64 ((p * 256 : Nat) : Int)) := by
  subst ea
  have h := ry_shl (P := P) (N := N) (w0 := w0) (L := L) (d := d) (ty := ty) (ps := ps) (af := af) (gd := gd) (t := t) (u := u) hx hy (by decide)
  have e : IntKind.u64.wrap ((p : Int) * 2 ^ min (Int.toNat 8) IntKind.u64.bits) = ((p * 256 : Nat) : Int) := by
    have e1 : (p : Int) * 2 ^ min (Int.toNat 8) IntKind.u64.bits = ((p * 256 : Nat) : Int) := by
      rw [show (2 : Int) ^ min (Int.toNat 8) IntKind.u64.bits = 256 from by decide]; omega
    rw [e1]; exact wrap_nat hp
  rw [e] at h; exact h
theorem be_fill {n many i : Nat} (h : i < many) : (List.replicate (many - i) (0 : UInt8) ++ be n i).set (many - 1 - i) (b8 (n / 256 ^ i)) = List.replicate (many - (i + 1)) 0 ++ be n (i + 1) := by
  rw [List.set_append_left _ _ (by simp; omega)]
  have e : List.replicate (many - i) (0 : UInt8) = List.replicate (many - (i + 1)) 0 ++ [0] := by
    rw [show many - i = many - (i + 1) + 1 by omega, List.replicate_succ', ]
  rw [e, List.set_append_right _ _ (by simp; omega)]
  simp only [List.length_replicate, show many - 1 - i - (many - (i + 1)) = 0 by omega, List.set_cons_zero, List.append_assoc]
  rfl
end
end Go.Eng

/- A row told shorter; zero values behind the nil slice; a slice whose elements are known one by one. -/
set_option linter.unusedSimpArgs false
set_option linter.unusedVariables false
namespace Go.Eng
open Go.RowKit
section
variable {α : Type} {enc : α → Array Value} {c : Nat} {s : Sv} {xs : List α}
theorem Mem.ownTake {w0 w : World} {L : List Ent} {i k : Nat} (hw : Mem w0 L w) (hi : L[i]? = some (own enc c s xs)) (hk : k ≤ xs.length) : Mem w0 (L.set i (own enc c (s.sub c 0 k) (xs.take k))) w := by
  obtain ⟨r, hrow⟩ := hw.get hi
  have r2 := r.sub (lo := 0) (hi := k) (Nat.zero_le _) hk
  rw [List.drop_zero, Nat.sub_zero] at r2
  refine hw.change hi (fun k hk => hk) (fun _ _ => rfl) rfl ⟨rfl, rfl, rfl⟩ ⟨r2, fun hn => ?_⟩
  obtain ⟨h1, cs, T, fz, h2, h3, h4, h5⟩ := hrow hn
  refine ⟨h1, cs, T, fz, h2, ?_, h4, h5⟩
  rw [Sv.sub_0]; exact h3
end
section
variable {P : Program} {N : Fra} {w0 : World} {env : Env} {L : List Ent} {Q : Exit → Act → World → Prop} {l rest : List Oper} {d : Option Tmp} {ty : TypeId} {ps : String} {af : Array Edge} {gd : Option (Nat × Bool)}
variable {α : Type} {enc : α → Array Value} {c : Nat} {xs : List α}
theorem sq_appendN {x y : Operand} {tx tys e : TypeId} {by' k : Nat} {z : Value} {kn kq : IntKind} {iy : Int} (x0 : α) (hx : ev env x = some (.slice none 0 0)) (hy : ev env y = some (.int kq iy)) (hk0 : iy = (k : Int)) (h0 : 0 < k)
    [ht : SlT P tx e c by'] [he : Enc enc c] (hc : 0 < c) [hz : ZeroT P e z] (hz0 : enc x0 = z.cells) (htn : P.underlying tys = some (.int kn)) (hb : k * by' ≤ 140737488355328) (h63 : k ≤ 140737488355328)
    (hk : ∀ b C : Nat, k ≤ C → Sq P N w0 l Q rest (putE env d (Sv.val ⟨false, b, 0, k, C, none⟩)) (own enc c ⟨false, b, 0, k, C, none⟩ (List.replicate k x0) :: L)) (hd : dstOk N d = true := by rfl) :
    Sq P N w0 l Q (⟨d, .call { callee := .builtin .append, args := #[x, y], argTypes := #[tx, tys] }, ty, ps, af, none⟩ :: rest) env L :=
  sq_run rfl hd fun aa w ha hw => by
    subst hk0
    obtain ⟨i', z', hi1, hi2, hi3, hi4, hzc⟩ := ht.info
    obtain rfl : z' = z := by
      have := hz.zero
      rw [hi1, Option.map_some, hi2] at this; exact Option.some.inj (Option.some.inj this)
    subst hi3 hi4
    have hrun := Lib.run_append_nil_zeros (P := P) w tx tys ty e i' z' kq kn ht.und htn hi1 hi2 k h0 hc (by omega) (by omega)
    have hcge := grownCap_ge w k 0 e
    generalize grownCap w k 0 e = C at hrun hcge
    have hZ1 := size_zeroCells z'.cells k
    have hZ2 := size_zeroCells z'.cells (C - k)
    have hgetZ : ∀ m i j, i < m → j < i'.size → (Builtin.zeroCells z'.cells m)[i * i'.size + j]? = z'.cells[j]? := fun m i j hi hj => by
      have hlt : i * i'.size + j < m * z'.cells.size := by
        rw [hzc]
        have : (i + 1) * i'.size ≤ m * i'.size := Nat.mul_le_mul_right _ hi
        rw [Nat.add_mul] at this; omega
      have e1 : (i * i'.size + j) % z'.cells.size = j := by rw [hzc, Nat.mul_comm, Nat.mul_add_mod]; exact Nat.mod_eq_of_lt hj
      have hz3 : j < z'.cells.size := by omega
      simp [Builtin.zeroCells, hlt, e1, hz3]
    refine ⟨_, _, _, ?_, hw.drew.call (mem_new (enc := enc) (c := i'.size) (xs := List.replicate k x0) (cs := Builtin.zeroCells z'.cells k ++ Builtin.zeroCells z'.cells (C - k)) (e := e) rfl k C (by simp) hcge h63 ?_ fun i x hx j hj => ?_), hk _ C hcge⟩
    · simp [execOp, ha.ev hx, ha.ev hy, resolve, invoke, builtin, hrun, Result.andThen, Sv.val]
    · rw [Array.size_append, hZ1, hZ2, hzc, ← Nat.add_mul]; exact Nat.mul_le_mul_right _ (by omega)
    · have hi : i < k := by
        have := (List.getElem?_eq_some_iff.1 hx).1
        simpa using this
      obtain rfl : x0 = x := by rw [List.getElem?_replicate, if_pos hi] at hx; exact Option.some.inj hx
      rw [hz0, ← hgetZ k i j hi hj, Array.getElem?_append_left]
      rw [hZ1, hzc]
      have : (i + 1) * i'.size ≤ k * i'.size := Nat.mul_le_mul_right _ hi
      rw [Nat.add_mul] at this; omega
theorem ry_capN {t e : TypeId} {x : Operand} {m : Nat} [ht : SliceT P t e m] (hx : ev env x = some (.slice none 0 0)) :
    Ry P N w0 env L ⟨d, .call { callee := .builtin .cap, args := #[x], argTypes := #[t] }, ty, ps, af, gd⟩ (.int .i64 (0 : Nat)) := fun a w ha _ => by
  have hu : P.underlying t = some (.slice (P.elem t)) := by rw [elem_of ht.und]; exact ht.und
  have := run_cap_slice (P := P) (w := w) t ty none 0 0 hu
  simp [execOp, ha.ev hx, resolve, invoke, builtin, this, Result.andThen, goInt]
/-- Each of some slices holds what it says. -/
class AllG (w0 : World) (L : List Ent) {τ : Type} [Deep τ] (xs : List τ) : Prop where
  h : ∀ w, Mem w0 L w → ∀ x ∈ xs, Deep.good (hp w) x
instance AllG.nil {τ : Type} [Deep τ] : AllG w0 L ([] : List τ) := ⟨fun _ _ _ h => by cases h⟩
instance AllG.cons {τ : Type} [Deep τ] {x : τ} {xs : List τ} [a : HdD w0 L x] [b : AllG w0 L xs] : AllG w0 L (x :: xs) := ⟨fun w hw y hy => by
  rcases List.mem_cons.1 hy with rfl | hy
  · exact a.h w hw
  · exact b.h w hw y hy⟩
/-- A slice of flat things, by its parts. -/
instance (priority := low) HdD.flat {τ : Type} [Deep τ] [Plain τ] {enc : τ → Array Value} {c : Nat} [FlatT τ enc c] {s : Sv} {xs : List τ} [q : HdE w0 L enc c s xs] : HdD w0 L (⟨s, xs⟩ : Sl τ) := ⟨fun w hw => by
  have hl := q.h w hw
  have e1 : Deep.cells (τ := τ) = enc := funext (FlatT.h (c := c))
  have e2 : Deep.c τ = c := FlatT.hc (enc := enc)
  refine ⟨?_, fun x _ => Deep.good_of _ x (by rw [Plain.h x]; exact trivial)⟩
  subst e1 e2
  exact hl⟩
instance (priority := low) HdD.rows {τ : Type} [Deep τ] {enc : τ → Array Value} {c : Nat} [FlatT τ enc c] {s : Sv} {xs : List τ} [q : HdE w0 L enc c s xs] [g : AllG w0 L xs] : HdD w0 L (⟨s, xs⟩ : Sl τ) := ⟨fun w hw => by
  have hl := q.h w hw
  have e1 : Deep.cells (τ := τ) = enc := funext (FlatT.h (c := c))
  have e2 : Deep.c τ = c := FlatT.hc (enc := enc)
  refine ⟨?_, g.h w hw⟩
  subst e1 e2
  exact hl⟩
/-- A slice of slices that the call has laid, by a name. -/
theorem sq_nameD {τ : Type} [Deep τ] {s : Sv} {xs : List τ} [g : HdD w0 L (⟨s, xs⟩ : Sl τ)] (h : ∀ a : Sl τ, a = ⟨s, xs⟩ → HdD w0 L a → Sq P N w0 l Q rest (putE env d a.sv.val) L) : Sq P N w0 l Q rest (putE env d s.val) L := h _ rfl g
/-- Bytes, one behind the other. -/
def flatB (l : List (Sl UInt8)) : List UInt8 := (l.map Sl.xs).flatten
theorem flatB_snoc {l : List (Sl UInt8)} {i : Nat} {x : Sl UInt8} (h : l[i]? = some x) : flatB (l.take (i + 1)) = flatB (l.take i) ++ x.xs := by
  rw [flatB, List.take_add_one, h]; simp [flatB]
theorem flatB_le (l : List (Sl UInt8)) (i : Nat) : (flatB (l.take i)).length ≤ (flatB l).length := by
  have e : flatB l = flatB (l.take i) ++ flatB (l.drop i) := by
    unfold flatB
    rw [← List.flatten_append, ← List.map_append, List.take_append_drop]
  rw [e, List.length_append]; omega
end
/-- Bytes with their sum behind them. -/
def sealed (l : List UInt8) : List UInt8 := l ++ be (Kb.crc l) 4
def openE (l : List UInt8) : Int := if l.length < 4 then 3 else if Kb.crc (l.take (l.length - 4)) = de (l.drop (l.length - 4)) then 0 else 4
def openV (l : List UInt8) : List UInt8 := if openE l = 0 then l.take (l.length - 4) else []
/-! Numbers as bytes, and back. -/
theorem de_foldl (l : List UInt8) : ∀ n, l.foldl (fun a b => a * 256 + b.toNat) n = n * 256 ^ l.length + de l := by
  induction l with
  | nil => intro n; simp [de]
  | cons x l ih =>
    intro n
    rw [List.foldl_cons, ih, show de (x :: l) = l.foldl (fun a b => a * 256 + b.toNat) (0 * 256 + x.toNat) from rfl, ih, List.length_cons, Nat.pow_succ]
    simp only [Nat.zero_mul, Nat.zero_add, Nat.add_mul]
    rw [Nat.mul_assoc n, Nat.mul_comm 256, Nat.add_assoc]
theorem de_cons (x : UInt8) (l : List UInt8) : de (x :: l) = x.toNat * 256 ^ l.length + de l := by
  rw [show de (x :: l) = l.foldl (fun a b => a * 256 + b.toNat) (0 * 256 + x.toNat) from rfl, de_foldl]; simp
theorem de_all (l : List UInt8) : de l < 256 ^ l.length := by
  have := de_lt l l.length (Nat.le_refl _)
  rwa [List.take_length] at this
theorem be_add (m n : Nat) : ∀ k, be (m * 256 ^ k + n) k = be n k
  | 0 => rfl
  | k + 1 => by
    have e : m * 256 ^ (k + 1) + n = (m * 256) * 256 ^ k + n := by rw [Nat.pow_succ, Nat.mul_assoc, Nat.mul_comm 256]
    rw [be, be, e, be_add (m * 256) n k, Nat.add_comm, Nat.add_mul_div_right _ _ (Nat.pow_pos (by decide))]
    congr 1
    apply UInt8.toNat_inj.1
    rw [b8_toNat, b8_toNat]; omega
theorem be_de : ∀ l : List UInt8, be (de l) l.length = l
  | [] => rfl
  | x :: l => by
    have h := de_all l
    rw [de_cons, List.length_cons, be, be_add, be_de l, Nat.add_comm, Nat.add_mul_div_right _ _ (Nat.pow_pos (by decide)), Nat.div_eq_of_lt h, Nat.zero_add, b8_of]
theorem de_be (n : Nat) : ∀ k, de (be n k) = n % 256 ^ k
  | 0 => by simp [be, de, Nat.mod_one]
  | k + 1 => by
    rw [be, de_cons, be_length, de_be n k, b8_toNat, Nat.pow_succ, Nat.mod_mul, Nat.mul_comm, Nat.add_comm]
theorem open_iff {l : List UInt8} (h : ¬ l.length < 4) : sealed (l.take (l.length - 4)) = l ↔ Kb.crc (l.take (l.length - 4)) = de (l.drop (l.length - 4)) := by
  have hd : (l.drop (l.length - 4)).length = 4 := by simp; omega
  have e : l = l.take (l.length - 4) ++ l.drop (l.length - 4) := (List.take_append_drop _ _).symm
  constructor
  · intro h1
    have h2 : be (Kb.crc (l.take (l.length - 4))) 4 = l.drop (l.length - 4) := by
      have h3 : l.take (l.length - 4) ++ be (Kb.crc (l.take (l.length - 4))) 4 = l.take (l.length - 4) ++ l.drop (l.length - 4) := by rw [← e]; exact h1
      exact List.append_cancel_left h3
    rw [← h2, de_be, Nat.mod_eq_of_lt (Nat.lt_of_lt_of_le (Kb.crc_lt _) (by decide))]
  · intro h1
    have h2 := be_de (l.drop (l.length - 4))
    rw [hd, ← h1] at h2
    rw [sealed, h2, ← e]
/-- The part of a slice that a seal closes. -/
def openS (b : Sv) (l : List UInt8) : Sv := if openE l = 0 then b.sub 1 0 (l.length - 4) else Sv.none
instance {w0 : World} {L : List Ent} {b : Sv} {l : List UInt8} [q : HdE w0 L benc 1 b l] : HdE w0 L benc 1 (openS b l) (openV l) := ⟨fun w hw => by
  unfold openS openV
  split
  · have := (q.h w hw).sub (lo := 0) (hi := l.length - 4) (Nat.zero_le _) (by omega)
    rwa [List.drop_zero, Nat.sub_zero] at this
  · exact Lies.nil benc 1 _⟩
end Go.Eng

/- Changes as bytes. No program in sight. -/
set_option linter.unusedSimpArgs false
set_option linter.unusedVariables false
namespace Go.Eng
open Go.Kb Go.RowKit
def keyB (k : Key) : List UInt8 := (List.range 16).map fun i => b8 (kbyte k i)
def chbytes (g : Ch) : List UInt8 := (if g.gone = true then 1 else 0) :: rbytes g.r
theorem chbytes_length (g : Ch) : (chbytes g).length = 21 := by rw [chbytes, List.length_cons, rbytes_length]
theorem chbytes_parts (g : Ch) : chbytes g = [if g.gone = true then 1 else 0, if g.r.p.bits = 128 then 1 else 0, b8i g.r.p.len] ++ keyB g.r.p.key ++ be g.r.hop.toNat 2 := by
  simp [chbytes, rbytes, keyB, be]
theorem lies_key {w : World} {b : Nat} {p : Pfx} {T : TypeId} (hb : w.heap[b]? = some (.cells (pcells p) T (0, 0))) : Lies benc 1 (hp w) ⟨false, b, 2, 16, 16, none⟩ (keyB p.key) := by
  refine rows_of ⟨(fun h => by cases h), Nat.le_refl _, (by decide : 16 ≤ 140737488355328), fun _ => rfl⟩ (by simp [keyB]) hb fun i x hx j hj => ?_
  obtain rfl : j = 0 := by omega
  have hi : i < 16 := by
    have := (List.getElem?_eq_some_iff.1 hx).1
    simpa [keyB] using this
  obtain rfl : b8 (kbyte p.key i) = x := by
    simp only [keyB, List.getElem?_map, List.getElem?_range hi, Option.map_some] at hx
    exact Option.some.inj hx
  have h1 := (pcells_k p i).trans (kcells_get p.key i hi)
  have h2 := kbyte_lt p.key i
  show (pcells p)[2 + i * 1 + 0]? = some (.int .u8 (b8 (kbyte p.key i)).toNat)
  rw [Nat.mul_one, Nat.add_zero, h1, b8_toNat, Nat.mod_eq_of_lt (by omega)]
/-- A batch as bytes. -/
def jbody (l : List Ch) (i : Nat) : List UInt8 := be l.length 2 ++ ((l.take i).map chbytes).flatten
def jputE (l : List Ch) : Int := if 200 < l.length then 1 else if (l.all fun g => pmay g.r.p) = true then 0 else 1
def jputV (l : List Ch) : List UInt8 := if jputE l = 0 then sealed (jbody l l.length) else []
theorem jbody_snoc {l : List Ch} {i : Nat} {g : Ch} (h : l[i]? = some g) : jbody l (i + 1) = jbody l i ++ chbytes g := by
  rw [jbody, List.take_add_one, h]; simp [jbody]
theorem jbody_length (l : List Ch) : ∀ i, i ≤ l.length → (jbody l i).length = 2 + 21 * i
  | 0, _ => by simp [jbody, be_length]
  | i + 1, h => by
    have hi : l[i]? = some l[i] := by simp [show i < l.length by omega]
    rw [jbody_snoc hi, List.length_append, jbody_length l i (by omega), chbytes_length]; omega
theorem jput_bad {l : List Ch} {i : Nat} {g : Ch} (h : l[i]? = some g) (hg : pmay g.r.p = false) : jputE l = 1 := by
  rw [jputE]
  split
  · rfl
  · rw [if_neg]
    intro ha
    have := List.all_eq_true.1 ha g (List.mem_of_getElem? h)
    rw [hg] at this; cases this
theorem jputV_length {l : List Ch} : (jputV l).length ≤ 4206 := by
  unfold jputV
  split
  · rename_i he
    have hl : l.length ≤ 200 := by
      apply Classical.byContradiction; intro hn
      rw [jputE, if_pos (by omega)] at he; omega
    rw [sealed, List.length_append, be_length, jbody_length _ _ (Nat.le_refl _)]; omega
  · simp
def jaddV (b : List UInt8) (l : List Ch) : List UInt8 := if jputE l = 0 then b ++ be (jputV l).length 2 ++ jputV l else b
end Go.Eng

/- Changes of a table: what is less, the route itself, and what is more. No program in sight. -/
set_option linter.unusedSimpArgs false
set_option linter.unusedVariables false
namespace Go.Kb
variable {t u : List Rt} {r : Rt} {q p : Pfx}
theorem less_tri (hp : pmay p = true) (hq : pmay q = true) (h : pless p q = false) (hn : p ≠ q) : pless q p = true := by
  rw [pless_iff hq hp]
  have h1 : ¬ pless p q = true := by rw [h]; simp
  rw [pless_iff hp hq] at h1
  have h2 : ¬ (p.bits = q.bits ∧ p.key.toNat = q.key.toNat ∧ p.len = q.len) := fun e => hn (pfx_eq.2 e)
  omega
theorem less_asym (hp : pmay p = true) (hq : pmay q = true) (h : pless p q = true) : pless q p = false := by
  cases hx : pless q p with
  | false => rfl
  | true => rw [pless_iff hq hp] at hx; rw [pless_iff hp hq] at h; omega
theorem less_ne (hp : pmay p = true) (h : pless p q = true) : p ≠ q := fun e => by subst e; rw [less_irr hp] at h; cases h
theorem less_trans' {a b c : Pfx} (ha : pmay a = true) (hb : pmay b = true) (hc : pmay c = true) (h1 : pless a b = true) (h2 : pless b c = true) : pless a c = true := by
  rw [pless_iff ha hb] at h1; rw [pless_iff hb hc] at h2; rw [pless_iff ha hc]; omega
def lessF (t : List Rt) (q : Pfx) : List Rt := t.filter fun x => pless x.p q
def moreF (t : List Rt) (q : Pfx) : List Rt := t.filter fun x => pless q x.p
theorem filter_all {α : Type} {f : α → Bool} {l : List α} (h : ∀ x ∈ l, f x = true) : l.filter f = l := List.filter_eq_self.2 h
theorem filter_none {α : Type} {f : α → Bool} {l : List α} (h : ∀ x ∈ l, f x = false) : l.filter f = [] := List.filter_eq_nil_iff.2 fun x hx => by rw [h x hx]; simp
/-- Lists in order with the same routes are the same. -/
theorem Ord.ext : ∀ {s t : List Rt}, Ord s → Ord t → (∀ x, x ∈ s ↔ x ∈ t) → s = t
  | [], [], _, _, _ => rfl
  | [], b :: t, _, _, h => by have := (h b).2 (List.mem_cons_self); cases this
  | a :: s, [], _, _, h => by have := (h a).1 (List.mem_cons_self); cases this
  | a :: s, b :: t, hs, ht, h => by
    have ha := (List.pairwise_cons.1 hs.less)
    have hb := (List.pairwise_cons.1 ht.less)
    have ma := hs.may a List.mem_cons_self
    have mb := ht.may b List.mem_cons_self
    have e : a = b := by
      apply Classical.byContradiction; intro hn
      rcases List.mem_cons.1 ((h a).1 List.mem_cons_self) with h1 | h1
      · exact hn h1
      · rcases List.mem_cons.1 ((h b).2 List.mem_cons_self) with h2 | h2
        · exact hn h2.symm
        · have h3 := hb.1 a h1
          have h4 := ha.1 b h2
          rw [less_asym mb ma h3] at h4; cases h4
    subst e
    have hne : ∀ x, (∀ y ∈ s, pless a.p y.p = true) → x ∈ s → x ≠ a := fun x hy hx e => by
      subst e; have := hy x hx; rw [less_irr ma] at this; cases this
    rw [Ord.ext (hs.sub (List.sublist_cons_self _ _)) (ht.sub (List.sublist_cons_self _ _)) fun x => ⟨fun hx => ?_, fun hx => ?_⟩]
    · rcases List.mem_cons.1 ((h x).1 (List.mem_cons_of_mem _ hx)) with h1 | h1
      · exact absurd h1 (hne x ha.1 hx)
      · exact h1
    · rcases List.mem_cons.1 ((h x).2 (List.mem_cons_of_mem _ hx)) with h1 | h1
      · subst h1; have := hb.1 x hx; rw [less_irr ma] at this; cases this
      · exact h1
/-- What stands ahead of a prefix's place is less; what stands behind is not. -/
theorem place_less (h : tright t = true) (hq : pmay q = true) : (∀ x ∈ t.take (placeN t q), pless x.p q = true) ∧ ∀ x ∈ t.drop (placeN t q), pless x.p q = false := by
  obtain ⟨h1, h2, h3⟩ := bs_spec (p := behind t q) (n := t.length) fun a b => behind_mono h hq a b
  constructor
  · intro x hx
    obtain ⟨i, hi⟩ := List.mem_iff_getElem?.1 hx
    have hil := (List.getElem?_eq_some_iff.1 hi).1
    rw [List.length_take] at hil
    rw [List.getElem?_take, if_pos (by omega)] at hi
    have := h2 i (by have : placeN t q = bs (behind t q) t.length := rfl; omega)
    simpa [behind, hi] using this
  · intro x hx
    obtain ⟨i, hi⟩ := List.mem_iff_getElem?.1 hx
    rw [List.getElem?_drop] at hi
    have hil := (List.getElem?_eq_some_iff.1 hi).1
    have := h3 (placeN t q + i) (Nat.le_add_right _ _) hil
    simpa [behind, hi] using this
theorem place_parts (h : tright t = true) (hq : pmay q = true) : t.take (placeN t q) = lessF t q ∧ (placeB t q = true → t.drop (placeN t q + 1) = moreF t q) ∧ (placeB t q = false → t.drop (placeN t q) = moreF t q) := by
  obtain ⟨h1, h2⟩ := place_less h hq
  have ho := right_ord h
  have e : t = t.take (placeN t q) ++ t.drop (placeN t q) := (List.take_append_drop _ _).symm
  have hm : ∀ x ∈ t, pmay x.p = true := ho.may
  have mt : ∀ x ∈ t.take (placeN t q), x ∈ t := fun x hx => List.mem_of_mem_take hx
  have md : ∀ x ∈ t.drop (placeN t q), x ∈ t := fun x hx => List.mem_of_mem_drop hx
  have k1 : t.take (placeN t q) = lessF t q := by
    unfold lessF
    conv => rhs; rw [e]
    rw [List.filter_append, filter_all h1, filter_none h2, List.append_nil]
  have k2 : moreF t q = moreF (t.drop (placeN t q)) q := by
    unfold moreF
    conv => lhs; rw [e]
    rw [List.filter_append, filter_none (l := t.take (placeN t q)) fun x hx => less_asym (hm x (mt x hx)) hq (h1 x hx), List.nil_append]
  refine ⟨k1, fun hb => ?_, fun hb => ?_⟩
  · obtain ⟨x, hx, hi, hp⟩ := place_in hb
    obtain ⟨hil, hi'⟩ := List.getElem?_eq_some_iff.1 hi
    have e2 : t.drop (placeN t q) = x :: t.drop (placeN t q + 1) := by rw [← hi', List.getElem_cons_drop]
    rw [k2, e2, moreF, List.filter_cons, hp, less_irr hq]
    simp only [Bool.false_eq_true, if_false]
    refine (filter_all fun y hy => ?_).symm
    obtain ⟨j, hj⟩ := List.mem_iff_getElem?.1 hy
    rw [List.getElem?_drop] at hj
    have := right_less h (placeN t q) (placeN t q + 1 + j) x y (by omega) hi hj
    rw [hp] at this; exact this
  · rw [k2]
    refine (filter_all fun y hy => ?_).symm
    refine less_tri (hm y (md y hy)) hq (h2 y hy) fun ep => ?_
    have := (place_some h hq (md y hy) ep).2
    rw [hb] at this; cases this
theorem chg_put (h : tright t = true) (he : chgE t ⟨r, false⟩ = 0) : chgL t ⟨r, false⟩ = lessF t r.p ++ r :: moreF t r.p := by
  obtain ⟨k1, k2, k3⟩ := place_parts h (chg_may he)
  rw [chgL, if_pos he, if_neg (by simp)]
  by_cases hb : placeB t r.p = true
  · obtain ⟨x, hx, hi, hp⟩ := place_in hb
    have hil := (List.getElem?_eq_some_iff.1 hi).1
    rw [if_pos hb, List.set_eq_take_append_cons_drop, if_pos hil, k1, k2 hb]
  · rw [if_neg hb]
    show t.take (placeN t r.p) ++ r :: t.drop (placeN t r.p) = _
    rw [k1, k3 (by simpa using hb)]
theorem chg_gone (h : tright t = true) (he : chgE t ⟨r, true⟩ = 0) : chgL t ⟨r, true⟩ = lessF t r.p ++ moreF t r.p := by
  have hm := chg_may he
  obtain ⟨k1, k2, k3⟩ := place_parts h hm
  have hb : placeB t r.p = true := by
    apply Classical.byContradiction; intro hn
    rw [chgE, if_pos hm, if_neg hn, if_pos rfl] at he; omega
  rw [chgL, if_pos he, if_pos rfl]
  show t.take (placeN t r.p) ++ t.drop (placeN t r.p + 1) = _
  rw [k1, k2 hb]
theorem gone_filter (h : Ord t) (hq : pmay q = true) : t.filter (fun x => decide (x.p ≠ q)) = lessF t q ++ moreF t q := by
  refine Ord.ext (h.sub List.filter_sublist) ⟨fun x hx => ?_, ?_⟩ fun x => ?_
  · rcases List.mem_append.1 hx with h1 | h1 <;> exact h.may x (List.mem_filter.1 h1).1
  · refine List.pairwise_append.2 ⟨h.less.sublist List.filter_sublist, h.less.sublist List.filter_sublist, fun a ha b hb => ?_⟩
    have ha := List.mem_filter.1 ha
    have hb := List.mem_filter.1 hb
    exact less_trans' (h.may a ha.1) hq (h.may b hb.1) ha.2 hb.2
  · rw [List.mem_append, List.mem_filter, lessF, moreF, List.mem_filter, List.mem_filter]
    constructor
    · rintro ⟨h1, h2⟩
      cases h3 : pless x.p q with
      | true => exact .inl ⟨h1, rfl⟩
      | false => exact .inr ⟨h1, less_tri (h.may x h1) hq h3 (by simpa using h2)⟩
    · rintro (⟨h1, h2⟩ | ⟨h1, h2⟩)
      · exact ⟨h1, by simpa using less_ne (h.may x h1) h2⟩
      · exact ⟨h1, by simpa using (less_ne hq h2).symm⟩
theorem ord_put (h : Ord t) (hr : pmay r.p = true) : Ord (lessF t r.p ++ r :: moreF t r.p) := by
  refine ⟨fun x hx => ?_, ?_⟩
  · rcases List.mem_append.1 hx with h1 | h1
    · exact h.may x (List.mem_filter.1 h1).1
    · rcases List.mem_cons.1 h1 with rfl | h1
      · exact hr
      · exact h.may x (List.mem_filter.1 h1).1
  · refine List.pairwise_append.2 ⟨h.less.sublist List.filter_sublist, List.pairwise_cons.2 ⟨fun y hy => (List.mem_filter.1 hy).2, h.less.sublist List.filter_sublist⟩, fun a ha b hb => ?_⟩
    have ha := List.mem_filter.1 ha
    rcases List.mem_cons.1 hb with rfl | hb
    · exact ha.2
    · have hb := List.mem_filter.1 hb
      exact less_trans' (h.may a ha.1) hr (h.may b hb.1) ha.2 hb.2
theorem chg_right (h : tright t = true) (c : Ch) : tright (chgL t c) = true := by
  by_cases he : chgE t c = 0
  · refine ord_right ?_ (chgL_len (tr_len h) c)
    obtain ⟨r, g⟩ := c
    cases g with
    | false => rw [chg_put h he]; exact ord_put (right_ord h) (chg_may he)
    | true => rw [chg_gone h he, ← gone_filter (right_ord h) (chg_may he)]; exact (right_ord h).sub List.filter_sublist
  · rw [chgL, if_neg he]; exact h
/-- A route put by the reference. -/
def putF (r : Rt) : List Rt → Bool → List Rt
  | [], d => if d = true then [] else [r]
  | x :: l, d => (if (!d && !pless x.p r.p) = true then [r] else []) ++ ((if x.p ≠ r.p then [x] else []) ++ putF r l (d || !pless x.p r.p))
theorem putF_done (r : Rt) : ∀ l, putF r l true = l.filter fun x => decide (x.p ≠ r.p)
  | [] => rfl
  | x :: l => by
    rw [putF, Bool.true_or, putF_done r l, List.filter_cons]
    by_cases h : x.p = r.p <;> simp [h]
theorem putF_eq (hr : pmay r.p = true) : ∀ {t : List Rt}, Ord t → putF r t false = lessF t r.p ++ r :: moreF t r.p
  | [], _ => rfl
  | x :: l, h => by
    have hl := h.sub (List.sublist_cons_self x l)
    have mx := h.may x List.mem_cons_self
    rw [putF]
    cases hx : pless x.p r.p with
    | true =>
      have hn := less_ne mx hx
      rw [show (false || !true) = false from rfl, putF_eq hr hl]
      simp [hn, lessF, moreF, List.filter_cons, hx, less_asym mx hr hx]
    | false =>
      rw [show (false || !false) = true from rfl, putF_done]
      have hp := (List.pairwise_cons.1 h.less).1
      have hg : ∀ y ∈ l, pless r.p y.p = true := fun y hy => by
        by_cases e : x.p = r.p
        · rw [← e]; exact hp y hy
        · exact less_trans' hr mx (hl.may y hy) (less_tri mx hr hx e) (hp y hy)
      have e1 : lessF (x :: l) r.p = [] := filter_none fun y hy => by
        rcases List.mem_cons.1 hy with rfl | hy
        · exact hx
        · exact less_asym hr (hl.may y hy) (hg y hy)
      have e2 : l.filter (fun y => decide (y.p ≠ r.p)) = l := filter_all fun y hy => by simpa using (less_ne hr (hg y hy)).symm
      have e3 : moreF l r.p = l := filter_all hg
      rw [e1, e2, moreF, List.filter_cons, show l.filter (fun y => pless r.p y.p) = l from e3]
      by_cases e : x.p = r.p
      · rw [e, less_irr hr]; simp
      · rw [less_tri mx hr hx e]; simp [e]
/-- A prefix looked for by the reference. -/
def rgetE (t : List Rt) (q : Pfx) : Int := if pmay q = true then (if (t.any fun x => decide (x.p = q)) = true then 0 else 6) else 1
def rgetH (t : List Rt) (q : Pfx) : UInt16 := if pmay q = true then ((t.find? fun x => decide (x.p = q)).map Rt.hop).getD 0 else 0
theorem get_place (h : tright t = true) (hq : pmay q = true) : (t.any fun x => decide (x.p = q)) = placeB t q := by
  cases hb : placeB t q with
  | true =>
    obtain ⟨x, hx, _, hp⟩ := place_in hb
    exact List.any_eq_true.2 ⟨x, hx, by simp [hp]⟩
  | false =>
    refine List.any_eq_false.2 fun x hx => ?_
    have hn : x.p ≠ q := fun e => by have := (place_some h hq hx e).2; rw [hb] at this; cases this
    simp [hn]
/-- What a change yields, as the reference asks. -/
theorem chgE_get (h : tright t = true) (c : Ch) : chgE t c = if rgetE t c.r.p = 1 ∨ (rgetE t c.r.p = 6 ∧ c.gone = true) then rgetE t c.r.p else if rgetE t c.r.p = 6 ∧ 256 ≤ t.length then 5 else 0 := by
  unfold chgE rgetE
  by_cases hm : pmay c.r.p = true
  · rw [if_pos hm, if_pos hm, get_place h hm]
    cases placeB t c.r.p <;> cases c.gone <;> simp
  · rw [if_neg hm, if_neg hm]; simp
theorem rget_bad (h : pmay q = false) : rgetE t q = 1 ∧ rgetH t q = 0 := by simp [rgetE, rgetH, h]
theorem rget_no (hm : pmay q = true) (h : ∀ x ∈ t, x.p ≠ q) : rgetE t q = 6 ∧ rgetH t q = 0 := by
  have h1 : (t.any fun x => decide (x.p = q)) = false := List.any_eq_false.2 fun x hx => by simp [h x hx]
  have h2 : (t.find? fun x => decide (x.p = q)) = none := List.find?_eq_none.2 fun x hx => by simp [h x hx]
  simp [rgetE, rgetH, hm, h1, h2]
theorem rget_hit {i : Nat} {e : Rt} (hm : pmay q = true) (hno : ∀ x ∈ t.take i, x.p ≠ q) (he : t[i]? = some e) (hp : e.p = q) : rgetE t q = 0 ∧ rgetH t q = e.hop := by
  obtain ⟨hi, he'⟩ := List.getElem?_eq_some_iff.1 he
  have ht : t = t.take i ++ e :: t.drop (i + 1) := by rw [← he', List.getElem_cons_drop, List.take_append_drop]
  have h1 : (t.any fun x => decide (x.p = q)) = true := List.any_eq_true.2 ⟨e, List.mem_of_getElem? he, by simp [hp]⟩
  have h2 : (t.find? fun x => decide (x.p = q)) = some e := by
    rw [ht, List.find?_append, List.find?_eq_none.2 fun x hx => by simp [hno x hx]]
    simp [hp]
  rw [rgetE, rgetH, if_pos hm, if_pos hm, if_pos h1, h2]
  exact ⟨rfl, rfl⟩
theorem take_succ_all {α : Type} {P : α → Prop} {l : List α} {i : Nat} {e : α} (h : ∀ x ∈ l.take i, P x) (he : l[i]? = some e) (hp : P e) : ∀ x ∈ l.take (i + 1), P x := fun x hx => by
  rw [List.take_add_one, he] at hx
  rcases List.mem_append.1 hx with h1 | h1
  · exact h x h1
  · rw [show x = e by simpa using h1]; exact hp
theorem dropAt {α : Type} {l : List α} {i : Nat} {e : α} (he : l[i]? = some e) : l.drop i = e :: l.drop (i + 1) := by
  obtain ⟨hi, rfl⟩ := List.getElem?_eq_some_iff.1 he
  rw [List.getElem_cons_drop]
theorem filter_take1 {α : Type} {f : α → Bool} {l : List α} {i : Nat} {e : α} (he : l[i]? = some e) : (l.take (i + 1)).filter f = (l.take i).filter f ++ (if f e = true then [e] else []) := by
  rw [List.take_add_one, he, List.filter_append]
  cases h : f e <;> simp [h]
/-- A change as the reference makes it. -/
theorem chg_putF (h : tright t = true) (he : chgE t ⟨r, false⟩ = 0) : chgL t ⟨r, false⟩ = putF r t false := by rw [chg_put h he, putF_eq (chg_may he) (right_ord h)]
theorem chg_goneF (h : tright t = true) (he : chgE t ⟨r, true⟩ = 0) : chgL t ⟨r, true⟩ = t.filter fun x => decide (x.p ≠ r.p) := by rw [chg_gone h he, gone_filter (right_ord h) (chg_may he)]
theorem app_none {t : List Rt} {l : List Ch} (h : tright t = true) (he : appE t l ≠ 0) : appL t l = t := by rw [appL, if_neg he]
theorem app_end {t q : List Rt} {l : List Ch} {i : Nat} {c : Ch} (h : tright t = true) (hf : appF t l = appF q (l.drop i)) (hc : l[i]? = some c) (he : chgE q c ≠ 0) : appE t l = chgE q c ∧ appL t l = t := by
  have ef : appF t l = (q, chgE q c) := by rw [hf, appF_step hc, if_neg he]
  have e1 : appE t l = chgE q c := by rw [appE, if_pos h, ef]
  exact ⟨e1, by rw [appL, if_neg (by rw [e1]; exact he)]⟩
theorem app_done {t q : List Rt} {l : List Ch} (h : tright t = true) (hf : appF t l = appF q (l.drop l.length)) : appE t l = 0 ∧ appL t l = q := by
  have ef : appF t l = (q, 0) := by rw [hf, List.drop_length]; rfl
  have e1 : appE t l = 0 := by rw [appE, if_pos h, ef]
  exact ⟨e1, by rw [appL, if_pos e1, ef]⟩
theorem chcells_inj {a b : Ch} (h : chcells a = chcells b) : a = b := by
  have h1 : rcells a.r = rcells b.r := Array.ext_getElem? fun j => by
    rcases Nat.lt_or_ge j 19 with hj | hj
    · rw [← chcells_r a j hj, ← chcells_r b j hj, h]
    · rw [Array.getElem?_eq_none (by rw [rcells_size]; exact hj), Array.getElem?_eq_none (by rw [rcells_size]; exact hj)]
  have h2 := chcells_g a
  rw [h, chcells_g b] at h2
  obtain ⟨ar, ag⟩ := a
  obtain ⟨br, bg⟩ := b
  have e1 := rcells_inj h1
  simp only [Option.some.injEq, Value.bool.injEq] at h2
  simp only at e1
  rw [e1, h2]
theorem putF_yes {e : Rt} {l : List Rt} {d : Bool} (h : d = false) (h' : pless e.p r.p = false) : putF r (e :: l) d = [r] ++ ((if e.p ≠ r.p then [e] else []) ++ putF r l true) := by
  rw [putF, h, h']; rfl
theorem putF_no {e : Rt} {l : List Rt} {d : Bool} (h : d = true ∨ pless e.p r.p = true) : putF r (e :: l) d = (if e.p ≠ r.p then [e] else []) ++ putF r l d := by
  rw [putF]
  rcases h with h | h <;> rw [h] <;> cases d <;> rfl
end Go.Kb

/- Journals read: what is computed, and its laws. No program in sight. -/
set_option linter.unusedSimpArgs false
set_option linter.unusedVariables false
namespace Go.Eng
open Go.Kb Go.RowKit

/-! A change out of its bytes. -/
def rdch (b : List UInt8) : Ch := ⟨rdroute (b.drop 1), decide (b.getD 0 0 = 1)⟩
def rdcok1 (b : List UInt8) : Bool := decide (b.getD 0 0 ≤ 1) && decide (b.getD 1 0 ≤ 1)
def rdcok (b : List UInt8) : Bool := rdcok1 b && pmay (rdch b).r.p
def rdcv (b : List UInt8) : Ch := if rdcok1 b = true then rdch b else zch
theorem getD_drop (b : List UInt8) (i j : Nat) : (b.drop i).getD j 0 = b.getD (i + j) 0 := by simp [List.getD, List.getElem?_drop]
theorem le_one {x : UInt8} : x ≤ 1 ↔ x = 0 ∨ x = 1 := by
  rw [UInt8.le_iff_toNat_le, ← UInt8.toNat_inj, ← UInt8.toNat_inj]; simp; omega
theorem rdch_chbytes {g : Ch} (h : pmay g.r.p = true) : rdch (chbytes g) = g ∧ rdcok (chbytes g) = true := by
  have e1 : (chbytes g).drop 1 = rbytes g.r := rfl
  have h1 := rd_rbytes h
  rw [rd_eq] at h1
  have hr : rdok (rbytes g.r) = true := by
    apply Classical.byContradiction; intro hn; rw [if_neg hn] at h1; cases h1
  rw [if_pos hr] at h1
  have e0 : (chbytes g).getD 0 0 = if g.gone = true then 1 else 0 := rfl
  have e2 : rdch (chbytes g) = g := by
    unfold rdch
    rw [e1, Option.some.inj h1, e0]
    obtain ⟨r, d⟩ := g
    cases d <;> rfl
  refine ⟨e2, ?_⟩
  have e3 : (chbytes g).getD 1 0 = (rbytes g.r).getD 0 0 := rfl
  rw [rdcok, e2, h, rdcok1, e0, e3, Bool.and_true, Bool.and_eq_true]
  refine ⟨?_, hr⟩
  cases g.gone <;> decide
theorem rbytes_rdroute {b : List UInt8} (hb : b.length = 20) (h : b.getD 0 0 ≤ 1) : rbytes (rdroute b) = b := by
  refine List.ext_getElem? fun j => ?_
  have hg : ∀ i, i < 20 → b[i]? = some (b.getD i 0) := fun i hi => by simp [List.getD, List.getElem?_eq_getElem (show i < b.length by omega)]
  rcases Nat.lt_or_ge j 20 with hj | hj
  · rw [hg j hj]
    by_cases h0 : j = 0
    · subst h0; rw [rbytes_0]
      show some (if (if b.getD 0 0 = 1 then (128 : Int) else 32) = 128 then (1 : UInt8) else 0) = _; rcases le_one.1 h with e | e <;> rw [e] <;> rfl
    by_cases h1 : j = 1
    · subst h1; rw [rbytes_1]; simp only [rdroute]; rw [b8i_nat, b8_of]
    by_cases h2 : j < 18
    · obtain ⟨i, rfl⟩ : ∃ i, j = 2 + i := ⟨j - 2, by omega⟩
      rw [rbytes_k _ i (by omega)]
      have : kbyte (rdroute b).p.key i = (b.getD (2 + i) 0).toNat := by
        show kbyte (kof fun i => (b.getD (2 + i) 0).toNat) i = _
        rw [kbyte_kof _ _ (by omega)]
        have := (b.getD (2 + i) 0).toNat_lt; omega
      rw [this, b8_of]
    · have hh : (rdroute b).hop.toNat = (b.getD 18 0).toNat * 256 + (b.getD 19 0).toNat := by
        simp only [rdroute, UInt16.toNat_ofNat']
        have := (b.getD 18 0).toNat_lt; have := (b.getD 19 0).toNat_lt; omega
      have l1 := (b.getD 18 0).toNat_lt
      have l2 := (b.getD 19 0).toNat_lt
      rcases (show j = 18 ∨ j = 19 by omega) with rfl | rfl
      · rw [rbytes_18, hh, show ((b.getD 18 0).toNat * 256 + (b.getD 19 0).toNat) / 256 = (b.getD 18 0).toNat by omega, b8_of]
      · rw [rbytes_19, hh]; congr 1; apply UInt8.toNat_inj.1; rw [b8_toNat]; omega
  · rw [List.getElem?_eq_none (by rw [rbytes_length]; exact hj), List.getElem?_eq_none (by omega)]
theorem chbytes_rdch {b : List UInt8} (hb : b.length = 21) (h : rdcok1 b = true) : chbytes (rdch b) = b := by
  obtain ⟨x, l, rfl⟩ : ∃ x l, b = x :: l := by
    cases b with
    | nil => cases hb
    | cons x l => exact ⟨x, l, rfl⟩
  rw [rdcok1, Bool.and_eq_true] at h
  have h0 : x ≤ 1 := of_decide_eq_true h.1
  have h1 : l.getD 0 0 ≤ 1 := of_decide_eq_true h.2
  show (if (decide ((x :: l).getD 0 0 = 1)) = true then (1 : UInt8) else 0) :: rbytes (rdroute ((x :: l).drop 1)) = _
  rw [List.drop_succ_cons, List.drop_zero, rbytes_rdroute (by simpa using hb) h1]
  congr 1
  rcases le_one.1 h0 with rfl | rfl <;> rfl

/-! A batch out of its bytes. -/
def chunk (b : List UInt8) (i : Nat) : List UInt8 := (b.drop (21 * i)).take 21
def jgo (b : List UInt8) (n : Nat) : List Ch := (List.range n).map fun i => rdch (chunk b i)
def jgok (b : List UInt8) (n : Nat) : Bool := (List.range n).all fun i => rdcok (chunk b i)
def jform (c : List UInt8) : Bool := decide (2 ≤ c.length) && decide (de (c.take 2) ≤ 200) && decide ((c.drop 2).length = 21 * de (c.take 2)) && jgok (c.drop 2) (de (c.take 2))
def jreadE (b : List UInt8) : Int := if openE b = 0 then (if jform (openV b) = true then 0 else 2) else openE b
def jreadV (b : List UInt8) : List Ch := if jreadE b = 0 then jgo ((openV b).drop 2) (de ((openV b).take 2)) else []
theorem jgo_length (b : List UInt8) (n : Nat) : (jgo b n).length = n := by simp [jgo]
theorem jgo_succ (b : List UInt8) (n : Nat) : jgo b (n + 1) = jgo b n ++ [rdch (chunk b n)] := by simp [jgo, List.range_succ]
theorem jgok_succ (b : List UInt8) (n : Nat) : jgok b (n + 1) = (jgok b n && rdcok (chunk b n)) := by simp [jgok, List.range_succ]
theorem jgok_no {b : List UInt8} {i n : Nat} (hi : i < n) (h : rdcok (chunk b i) = false) : jgok b n = false := by
  rw [jgok, List.all_eq_false]
  exact ⟨i, List.mem_range.2 hi, by simp [h]⟩
theorem openE_cases (l : List UInt8) : openE l = 0 ∨ openE l = 3 ∨ openE l = 4 := by
  unfold openE; split
  · simp
  · split <;> simp
theorem chunk_flat : ∀ {l : List Ch} {i : Nat} {g : Ch}, l[i]? = some g → chunk ((l.map chbytes).flatten) i = chbytes g
  | x :: l, 0, g, h => by
    obtain rfl : x = g := by simpa using h
    rw [chunk, List.map_cons, List.flatten_cons, Nat.mul_zero, List.drop_zero, List.take_left' (chbytes_length x)]
  | x :: l, i + 1, g, h => by
    have := chunk_flat (l := l) (i := i) (by simpa using h)
    rw [chunk, List.map_cons, List.flatten_cons, Nat.mul_add, Nat.add_comm, ← List.drop_drop, List.drop_left' (chbytes_length x)]
    exact this
theorem jput_ok {l : List Ch} (h : jputE l = 0) : l.length ≤ 200 ∧ ∀ g ∈ l, pmay g.r.p = true := by
  unfold jputE at h
  split at h
  · omega
  · split at h
    · rename_i h2
      exact ⟨by omega, fun g hg => List.all_eq_true.1 h2 g hg⟩
    · omega
theorem flat_chlen : ∀ l : List Ch, ((l.map chbytes).flatten).length = 21 * l.length
  | [] => rfl
  | x :: l => by rw [List.map_cons, List.flatten_cons, List.length_append, flat_chlen l, chbytes_length, List.length_cons]; omega
theorem open_sealed (b : List UInt8) : openE (sealed b) = 0 ∧ openV (sealed b) = b := by
  have hl : (sealed b).length = b.length + 4 := by rw [sealed, List.length_append, be_length]
  have e1 : (sealed b).take ((sealed b).length - 4) = b := by rw [hl, Nat.add_sub_cancel, sealed, List.take_left]
  have e2 : (sealed b).drop ((sealed b).length - 4) = be (crc b) 4 := by rw [hl, Nat.add_sub_cancel, sealed, List.drop_left]
  have h : openE (sealed b) = 0 := by
    rw [openE, if_neg (by omega), e1, e2, if_pos]
    rw [de_be, Nat.mod_eq_of_lt (Nat.lt_of_lt_of_le (crc_lt b) (by decide))]
  exact ⟨h, by rw [openV, if_pos h, e1]⟩
/-- What is put is read as it was. -/
theorem jread_jput {l : List Ch} (h : jputE l = 0) : jreadE (jputV l) = 0 ∧ jreadV (jputV l) = l := by
  obtain ⟨h1, h2⟩ := jput_ok h
  have ev : jputV l = sealed (jbody l l.length) := if_pos h
  obtain ⟨o1, o2⟩ := open_sealed (jbody l l.length)
  have hb : jbody l l.length = be l.length 2 ++ (l.map chbytes).flatten := by rw [jbody, List.take_length]
  have b1 : (jbody l l.length).take 2 = be l.length 2 := by rw [hb, List.take_left' (be_length _ _)]
  have b2 : (jbody l l.length).drop 2 = (l.map chbytes).flatten := by rw [hb, List.drop_left' (be_length _ _)]
  have b3 : de (be l.length 2) = l.length := by rw [de_be, Nat.mod_eq_of_lt (Nat.lt_of_le_of_lt h1 (by decide))]
  have hg : ∀ i, i < l.length → rdch (chunk ((l.map chbytes).flatten) i) = l.getD i zch ∧ rdcok (chunk ((l.map chbytes).flatten) i) = true := fun i hi => by
    have hi' : l[i]? = some l[i] := by simp [hi]
    rw [chunk_flat hi', List.getD, hi']
    exact rdch_chbytes (h2 _ (List.getElem_mem hi))
  have hf : jform (jbody l l.length) = true := by
    rw [jform, b1, b2, b3, flat_chlen, jbody_length _ _ (Nat.le_refl _)]
    have : jgok ((l.map chbytes).flatten) l.length = true := by
      rw [jgok, List.all_eq_true]
      exact fun i hi => (hg i (List.mem_range.1 hi)).2
    rw [this]; simp [h1]
  have e0 : jreadE (jputV l) = 0 := by rw [ev, jreadE, if_pos o1, o2, if_pos hf]
  refine ⟨e0, ?_⟩
  rw [jreadV, if_pos e0, ev, o2, b1, b2, b3]
  refine List.ext_getElem? fun i => ?_
  rcases Nat.lt_or_ge i l.length with hi | hi
  · rw [jgo, List.getElem?_map, List.getElem?_range hi, Option.map_some, (hg i hi).1, List.getD, List.getElem?_eq_getElem hi]; rfl
  · rw [List.getElem?_eq_none (by rw [jgo_length]; exact hi), List.getElem?_eq_none hi]
theorem flat_chunks : ∀ (n : Nat) {b : List UInt8}, b.length = 21 * n → jgok b n = true → ((jgo b n).map chbytes).flatten = b
  | 0, b, hb, _ => by have : b = [] := List.length_eq_zero_iff.1 (by omega); subst this; rfl
  | n + 1, b, hb, h => by
    rw [jgok_succ, Bool.and_eq_true] at h
    have hc : (chunk b n).length = 21 := by rw [chunk, List.length_take, List.length_drop]; omega
    have h2 : rdcok1 (chunk b n) = true := by have := h.2; rw [rdcok, Bool.and_eq_true] at this; exact this.1
    have e1 : chunk b n = b.drop (21 * n) := by rw [chunk, List.take_of_length_le (by rw [List.length_drop]; omega)]
    have e2 : ∀ i, i < n → chunk (b.take (21 * n)) i = chunk b i := fun i hi => by
      rw [chunk, chunk, List.drop_take, List.take_take]; congr 1; omega
    have e3 : jgo (b.take (21 * n)) n = jgo b n := List.map_congr_left fun i hi => by rw [e2 i (List.mem_range.1 hi)]
    have e4 : jgok (b.take (21 * n)) n = true := by
      rw [jgok, List.all_eq_true]
      exact fun i hi => by rw [e2 i (List.mem_range.1 hi)]; exact List.all_eq_true.1 h.1 i hi
    have ih := flat_chunks n (b := b.take (21 * n)) (by rw [List.length_take]; omega) e4
    rw [e3] at ih
    rw [jgo_succ, List.map_append, List.flatten_append, ih, List.map_cons, List.map_nil, List.flatten_cons, List.flatten_nil, List.append_nil, chbytes_rdch hc h2, e1, List.take_append_drop]
theorem sealed_open {b : List UInt8} (h : openE b = 0) : sealed (openV b) = b ∧ 4 ≤ b.length := by
  unfold openE at h
  split at h
  · omega
  · rename_i hl
    split at h
    · rename_i h1
      refine ⟨?_, by omega⟩
      rw [openV, if_pos (by rw [openE, if_neg hl, if_pos h1])]
      exact (open_iff hl).2 h1
    · omega
/-- What is read is put so. -/
theorem jput_jread {b : List UInt8} (h : jreadE b = 0) : jputE (jreadV b) = 0 ∧ jputV (jreadV b) = b := by
  have ho : openE b = 0 := by
    apply Classical.byContradiction; intro hn
    rw [jreadE, if_neg hn] at h; exact hn h
  have hf : jform (openV b) = true := by
    apply Classical.byContradiction; intro hn
    rw [jreadE, if_pos ho, if_neg hn] at h; omega
  have ev : jreadV b = jgo ((openV b).drop 2) (de ((openV b).take 2)) := if_pos h
  simp only [jform, Bool.and_eq_true, decide_eq_true_eq] at hf
  obtain ⟨⟨⟨f1, f2⟩, f3⟩, f4⟩ := hf
  have hE : jputE (jreadV b) = 0 := by
    rw [jputE, ev, jgo_length, if_neg (by omega), if_pos]
    rw [List.all_eq_true]
    intro g hg
    obtain ⟨i, hi, rfl⟩ := List.mem_map.1 hg
    have := List.all_eq_true.1 f4 i hi
    rw [rdcok, Bool.and_eq_true] at this; exact this.2
  refine ⟨hE, ?_⟩
  have hlen : (jreadV b).length = de ((openV b).take 2) := by rw [ev, jgo_length]
  have hb : jbody (jreadV b) (jreadV b).length = openV b := by
    rw [jbody, List.take_length, hlen, ev, flat_chunks _ f3 f4]
    have := be_de ((openV b).take 2)
    rw [List.length_take, Nat.min_eq_left f1] at this
    rw [this, List.take_append_drop]
  rw [jputV, if_pos hE, hb, (sealed_open ho).1]

/-! A byte turned. -/
theorem open_turned {b : List UInt8} {i : Nat} {x y : UInt8} (h : openE b = 0) (hx : b[i]? = some x) (hn : x ≠ y) : openE (b.set i y) ≠ 0 := by
  obtain ⟨hs, hl⟩ := sealed_open h
  have hlen : (b.set i y).length = b.length := by simp
  have hi := (List.getElem?_eq_some_iff.1 hx).1
  have h1 : crc (b.take (b.length - 4)) = de (b.drop (b.length - 4)) := by
    apply Classical.byContradiction; intro hh
    rw [openE, if_neg (by omega), if_neg hh] at h; omega
  rw [openE, hlen, if_neg (by omega)]
  rw [if_neg]
  · decide
  intro h2
  rcases Nat.lt_or_ge i (b.length - 4) with h3 | h3
  · rw [List.take_set, List.drop_set_of_lt h3, ← h1] at h2
    exact crc_one (by rw [List.getElem?_take, if_pos h3]; exact hx) hn h2
  · rw [List.take_set_of_le (by omega), h1] at h2
    have e1 := be_de (b.drop (b.length - 4))
    have e2 := be_de ((b.set i y).drop (b.length - 4))
    rw [List.length_drop] at e1 e2
    rw [hlen, ← h2, e1] at e2
    have e3 := congrArg (·[i - (b.length - 4)]?) e2
    simp only [List.getElem?_drop, show b.length - 4 + (i - (b.length - 4)) = i by omega] at e3
    rw [hx, List.getElem?_set_self hi] at e3
    exact hn (Option.some.inj e3)
theorem jread_turned {b : List UInt8} {i : Nat} {x y : UInt8} (h : jreadE b = 0) (hx : b[i]? = some x) (hn : x ≠ y) : jreadE (b.set i y) ≠ 0 := by
  have ho : openE b = 0 := by
    apply Classical.byContradiction; intro hh
    rw [jreadE, if_neg hh] at h; exact hh h
  have := open_turned ho hx hn
  rw [jreadE, if_neg this]; exact this

/-! All batches. -/
def allJ (l : List UInt8) : List (List Ch) × Nat :=
  if h : l.length < 2 then ([], 0)
  else if l.length < 2 + de (l.take 2) then ([], 0)
  else if jreadE ((l.drop 2).take (de (l.take 2))) = 0 then
    (jreadV ((l.drop 2).take (de (l.take 2))) :: (allJ (l.drop (2 + de (l.take 2)))).1, 2 + de (l.take 2) + (allJ (l.drop (2 + de (l.take 2)))).2)
  else ([], 0)
termination_by l.length
decreasing_by all_goals (rw [List.length_drop]; omega)
theorem allJ_short {l : List UInt8} (h : l.length < 2) : allJ l = ([], 0) := by rw [allJ, dif_pos h]
theorem allJ_cut {l : List UInt8} (h2 : l.length < 2 + de (l.take 2)) : allJ l = ([], 0) := by
  rw [allJ]; split
  · rfl
  · simp [h2]
theorem allJ_bad {l : List UInt8} (h3 : jreadE ((l.drop 2).take (de (l.take 2))) ≠ 0) : allJ l = ([], 0) := by
  rw [allJ]; split
  · rfl
  · split
    · rfl
    · simp [h3]
theorem allJ_ok {l : List UInt8} (h1 : ¬ l.length < 2) (h2 : ¬ l.length < 2 + de (l.take 2)) (h3 : jreadE ((l.drop 2).take (de (l.take 2))) = 0) :
    allJ l = (jreadV ((l.drop 2).take (de (l.take 2))) :: (allJ (l.drop (2 + de (l.take 2)))).1, 2 + de (l.take 2) + (allJ (l.drop (2 + de (l.take 2)))).2) := by
  rw [allJ, dif_neg h1, if_neg h2, if_pos h3]
/-- A batch as it stands in a journal. -/
def frame (l : List Ch) : List UInt8 := be (jputV l).length 2 ++ jputV l
theorem jadd_frame {b : List UInt8} {l : List Ch} (h : jputE l = 0) : jaddV b l = b ++ frame l := by rw [jaddV, if_pos h, frame, List.append_assoc]
theorem frame_length (l : List Ch) : (frame l).length = 2 + (jputV l).length := by rw [frame, List.length_append, be_length]
theorem frame_de (l : List Ch) (b : List UInt8) : de ((frame l ++ b).take 2) = (jputV l).length := by
  have := jputV_length (l := l)
  rw [frame, List.append_assoc, List.take_left' (be_length _ _), de_be, Nat.mod_eq_of_lt (Nat.lt_of_le_of_lt this (by decide))]
theorem frame_body (l : List Ch) (b : List UInt8) : ((frame l ++ b).drop 2).take (jputV l).length = jputV l := by
  rw [frame, List.append_assoc, List.drop_left' (be_length _ _), List.take_left]
theorem allJ_frame {l : List Ch} (h : jputE l = 0) (b : List UInt8) : allJ (frame l ++ b) = (l :: (allJ b).1, (frame l).length + (allJ b).2) := by
  obtain ⟨r1, r2⟩ := jread_jput h
  have hl := frame_length l
  have e := frame_de l b
  have e2 := frame_body l b
  rw [allJ_ok (by rw [List.length_append, hl]; omega) (by rw [e, List.length_append, hl]; omega) (by rw [e, e2]; exact r1), e, e2, r2, hl, ← hl, List.drop_left]
def framesJ (p : List (List Ch)) : List UInt8 := (p.map frame).flatten
theorem framesJ_cons (l : List Ch) (p : List (List Ch)) : framesJ (l :: p) = frame l ++ framesJ p := rfl
theorem framesJ_append (p q : List (List Ch)) : framesJ (p ++ q) = framesJ p ++ framesJ q := by simp [framesJ]
theorem framesJ_snoc (p : List (List Ch)) (l : List Ch) : framesJ (p ++ [l]) = framesJ p ++ frame l := by simp [framesJ]
/-- Batches ahead of any bytes. -/
theorem allJ_frames : ∀ {p : List (List Ch)}, (∀ l ∈ p, jputE l = 0) → ∀ b, allJ (framesJ p ++ b) = (p ++ (allJ b).1, (framesJ p).length + (allJ b).2)
  | [], _, b => by simp [framesJ]
  | l :: p, h, b => by
    rw [framesJ_cons, List.append_assoc, allJ_frame (h l (by simp)), allJ_frames fun x hx => h x (by simp [hx])]
    simp only [List.cons_append, List.length_append, Nat.add_assoc]
/-- What is read of any bytes is its own batches, one behind the other. -/
theorem allJ_whole (l : List UInt8) : (allJ l).2 ≤ l.length ∧ (∀ x ∈ (allJ l).1, jputE x = 0) ∧ l.take (allJ l).2 = framesJ (allJ l).1 := by
  generalize hn : l.length = n
  induction n using Nat.strongRecOn generalizing l with
  | _ n ih =>
    by_cases h1 : l.length < 2
    · rw [allJ_short h1]; exact ⟨Nat.zero_le _, fun _ h => (List.not_mem_nil h).elim, rfl⟩
    by_cases h2 : l.length < 2 + de (l.take 2)
    · rw [allJ_cut h2]; exact ⟨Nat.zero_le _, fun _ h => (List.not_mem_nil h).elim, rfl⟩
    by_cases h3 : jreadE ((l.drop 2).take (de (l.take 2))) = 0
    · obtain ⟨p1, p2⟩ := jput_jread h3
      obtain ⟨i1, i2, i3⟩ := ih (l.drop (2 + de (l.take 2))).length (by rw [List.length_drop]; omega) (l.drop (2 + de (l.take 2))) rfl
      rw [allJ_ok h1 h2 h3]
      rw [List.length_drop] at i1
      refine ⟨by dsimp only; omega, fun x hx => ?_, ?_⟩
      · rcases List.mem_cons.1 hx with rfl | hx
        · exact p1
        · exact i2 x hx
      · dsimp only
        rw [framesJ_cons, ← i3, frame, p2, List.length_take, List.length_drop, Nat.min_eq_left (by omega)]
        have e1 : be (de (l.take 2)) 2 = l.take 2 := by
          have := be_de (l.take 2)
          rwa [List.length_take, Nat.min_eq_left (by omega)] at this
        rw [e1]
        generalize de (l.take 2) = d
        generalize (allJ (l.drop (2 + d))).2 = m
        rw [List.take_add, List.take_add, ]
    · rw [allJ_bad h3]; exact ⟨Nat.zero_le _, fun _ h => (List.not_mem_nil h).elim, rfl⟩
theorem allJ_take (l : List UInt8) (b : List UInt8) : allJ (l.take (allJ l).2 ++ b) = ((allJ l).1 ++ (allJ b).1, (allJ l).2 + (allJ b).2) := by
  obtain ⟨h1, h2, h3⟩ := allJ_whole l
  have hl : (framesJ (allJ l).1).length = (allJ l).2 := by rw [← h3, List.length_take, Nat.min_eq_left h1]
  rw [h3, allJ_frames h2, hl]
/-- A part of a batch is none. -/
theorem allJ_part {l : List Ch} {k : Nat} (h : k < (frame l).length) : allJ ((frame l).take k) = ([], 0) := by
  by_cases h1 : k < 2
  · exact allJ_short (by rw [List.length_take]; omega)
  · refine allJ_cut ?_
    have e : ((frame l).take k).take 2 = (frame l).take 2 := by rw [List.take_take, Nat.min_eq_left (by omega)]
    have := frame_de l []
    rw [List.append_nil] at this
    rw [e, this, List.length_take]
    have := frame_length l
    omega
/-- A byte turned in a batch, behind its number of bytes. -/
theorem allJ_turned {l : List Ch} {i : Nat} {x y : UInt8} (h : jputE l = 0) (hi : 2 ≤ i) (hx : (frame l)[i]? = some x) (hn : x ≠ y) (b : List UInt8) : allJ ((frame l).set i y ++ b) = ([], 0) := by
  have hl := frame_length l
  have hil := (List.getElem?_eq_some_iff.1 hx).1
  have h2 : (be (jputV l).length 2).length = 2 := be_length _ _
  have hset : (frame l).set i y = be (jputV l).length 2 ++ (jputV l).set (i - 2) y := by
    rw [frame, List.set_append_right _ _ (by rw [h2]; exact hi), h2]
  have hx' : (jputV l)[i - 2]? = some x := by
    rw [frame, List.getElem?_append_right (by rw [h2]; exact hi), h2] at hx; exact hx
  have hd : de ((be (jputV l).length 2 ++ (jputV l).set (i - 2) y ++ b).take 2) = (jputV l).length := by
    have := jputV_length (l := l)
    rw [List.append_assoc, List.take_left' h2, de_be, Nat.mod_eq_of_lt (Nat.lt_of_le_of_lt this (by decide))]
  refine allJ_bad ?_
  rw [hset, hd, List.append_assoc, List.drop_left' h2, List.take_left' (by simp)]
  exact jread_turned (jread_jput h).1 hx' hn

/-! A journal that is played. -/
def playF : List Rt → List (List Ch) → List Rt × Nat × Int
  | t, [] => (t, 0, 0)
  | t, g :: r => if appE t g = 0 then ((playF (appL t g) r).1, (playF (appL t g) r).2.1 + 1, (playF (appL t g) r).2.2) else (t, 0, appE t g)
def playV (t : List Rt) (j : List UInt8) : List Rt × Nat × Int := if tright t = true then playF t (allJ j).1 else (t, 0, 1)
theorem playF_snoc : ∀ {p : List (List Ch)} {t : List Rt} {g : List Ch}, playF t (p ++ [g]) = if (playF t p).2.2 = 0 then (if appE (playF t p).1 g = 0 then (appL (playF t p).1 g, (playF t p).2.1 + 1, 0) else ((playF t p).1, (playF t p).2.1, appE (playF t p).1 g)) else playF t p
  | [], t, g => by
    rw [List.nil_append, playF, playF, if_pos rfl, playF]
  | a :: p, t, g => by
    rw [List.cons_append, playF, playF_snoc (p := p), playF]
    by_cases h : appE t a = 0
    · rw [if_pos h, if_pos h]
      by_cases h2 : (playF (appL t a) p).2.2 = 0
      · simp only [if_pos h2]
        split <;> rfl
      · simp only [if_neg h2]
    · rw [if_neg h, if_neg h]; simp only [if_neg h]
theorem app_right {t : List Rt} (h : tright t = true) : ∀ l : List Ch, tright (appF t l).1 = true := by
  intro l
  induction l generalizing t with
  | nil => exact h
  | cons c l ih =>
    rw [appF]; split
    · exact ih (chg_right h c)
    · exact h
theorem appL_right {t : List Rt} (h : tright t = true) (l : List Ch) : tright (appL t l) = true := by
  unfold appL; split
  · exact app_right h l
  · exact h

/-! Cells of a change that is read. -/
theorem set_push {A : Array Value} {v x : Value} {i : Nat} (h : i < A.size) : (A ++ #[v]).setIfInBounds i x = A.setIfInBounds i x ++ #[v] := by
  refine Array.ext_getElem? fun j => ?_
  rw [Array.getElem?_setIfInBounds, Array.getElem?_append, Array.getElem?_append, Array.getElem?_setIfInBounds, Array.size_setIfInBounds, Array.size_append]
  by_cases hj : i = j
  · subst hj; rw [if_pos rfl, if_pos (by simp; omega), if_pos h, if_pos rfl, if_pos h]
  · rw [if_neg hj, if_neg hj]
theorem over_push {A vs : Array Value} {v : Value} {o : Nat} (h : o + vs.size ≤ A.size) : over (A ++ #[v]) o vs = over A o vs ++ #[v] := by
  have h2 : o + vs.size ≤ (A ++ #[v]).size := by rw [Array.size_append]; omega
  refine Array.ext_getElem? fun j => ?_
  rw [cells_over h2, Array.getElem?_append, Array.getElem?_append, over_size h, cells_over h]
  by_cases hj : o ≤ j ∧ j < o + vs.size
  · rw [if_pos hj, if_pos (by omega), if_pos hj]
  · rw [if_neg hj, if_neg hj]
theorem unch_cells {b : List UInt8} (hb : b.length = 21) {g : Bool} {v : Int} (hv : v = if b.getD 1 0 = 1 then 128 else 32) :
    (over (((chcells ⟨zroute, g⟩).setIfInBounds 0 (.int .i64 v)).setIfInBounds 1 (.int .i64 (b.getD 2 0).toNat)) 2 (flatR benc ((b.drop 3).take 16)).toArray).setIfInBounds 18 (.int .u16 (hop16 (b.getD 19 0) (b.getD 20 0)).toNat) = chcells ⟨rdroute (b.drop 1), g⟩ := by
  have h := unlaid_cells (b := b.drop 1) (by rw [List.length_drop, hb]) v (by rw [getD_drop]; exact hv)
  simp only [getD_drop, List.drop_drop, Nat.reduceAdd] at h
  have hk : (flatR benc ((b.drop 3).take 16)).toArray.size = 16 := by rw [List.size_toArray, flatR_length, List.length_take, List.length_drop, hb]; rfl
  have h0 : (rcells zroute).size = 19 := rcells_size _
  have ec : ∀ r, chcells ⟨r, g⟩ = rcells r ++ #[.bool g] := fun r => rfl
  rw [ec, ec]
  have s1 : ((rcells zroute).setIfInBounds 0 (.int .i64 v)).size = 19 := by rw [Array.size_setIfInBounds, h0]
  have s2 : (((rcells zroute).setIfInBounds 0 (.int .i64 v)).setIfInBounds 1 (.int .i64 (b.getD 2 0).toNat)).size = 19 := by rw [Array.size_setIfInBounds, s1]
  generalize (Value.int .i64 v) = y0 at h s1 s2 ⊢
  generalize (Value.int .i64 (b.getD 2 0).toNat) = y1 at h s2 ⊢
  generalize (flatR benc ((b.drop 3).take 16)).toArray = y2 at h hk ⊢
  generalize (Value.int .u16 (hop16 (b.getD 19 0) (b.getD 20 0)).toNat) = y3 at h ⊢
  generalize rcells zroute = A at h h0 s1 s2 ⊢
  generalize rcells (rdroute (b.drop 1)) = B at h ⊢
  have e1 : (A ++ #[Value.bool g]).setIfInBounds 0 y0 = A.setIfInBounds 0 y0 ++ #[.bool g] := set_push (by omega)
  have e2 : (A.setIfInBounds 0 y0 ++ #[Value.bool g]).setIfInBounds 1 y1 = (A.setIfInBounds 0 y0).setIfInBounds 1 y1 ++ #[.bool g] := set_push (by omega)
  have s3 : 2 + y2.size ≤ ((A.setIfInBounds 0 y0).setIfInBounds 1 y1).size := by omega
  have e3 : over ((A.setIfInBounds 0 y0).setIfInBounds 1 y1 ++ #[Value.bool g]) 2 y2 = over ((A.setIfInBounds 0 y0).setIfInBounds 1 y1) 2 y2 ++ #[.bool g] := over_push s3
  have e4 : (over ((A.setIfInBounds 0 y0).setIfInBounds 1 y1) 2 y2 ++ #[Value.bool g]).setIfInBounds 18 y3 = (over ((A.setIfInBounds 0 y0).setIfInBounds 1 y1) 2 y2).setIfInBounds 18 y3 ++ #[.bool g] := set_push (by rw [over_size s3]; omega)
  rw [e1, e2, e3, e4, h]
theorem jgo_fill {c : List UInt8} {i n : Nat} (h : i < n) : (jgo c i ++ List.replicate (n - i) zch).set i (rdch (chunk c i)) = jgo c (i + 1) ++ List.replicate (n - (i + 1)) zch := by
  rw [List.set_append_right _ _ (by rw [jgo_length]; exact Nat.le_refl _), jgo_length, Nat.sub_self, show n - i = n - (i + 1) + 1 by omega, List.replicate_succ, List.set_cons_zero, jgo_succ]
  simp
theorem jgo_at {c : List UInt8} {i n : Nat} (h : i < n) : (jgo c i ++ List.replicate (n - i) zch)[i]? = some zch := by
  rw [List.getElem?_append_right (by rw [jgo_length]; exact Nat.le_refl _), jgo_length, Nat.sub_self, List.getElem?_replicate, if_pos (by omega)]
theorem chunk_raw (c : List UInt8) (i : Nat) : (((c.drop 2).take (c.length - 2)).drop (i * 21)).take ((i + 1) * 21 - i * 21) = chunk (c.drop 2) i := by
  rw [List.take_of_length_le (l := c.drop 2) (by rw [List.length_drop]; exact Nat.le_refl _), chunk, show (i + 1) * 21 - i * 21 = 21 by omega, Nat.mul_comm i]
theorem de_two_lt (c : List UInt8) : de (c.take 2) < 65536 := by
  have h := de_all (c.take 2)
  have : (c.take 2).length ≤ 2 := by rw [List.length_take]; omega
  exact Nat.lt_of_lt_of_le h (Nat.pow_le_pow_right (by decide) this)
/-- Lists of changes, by what they hold. -/
def lc (a : Sl (Sl Ch)) : List (List Ch) := a.xs.map Sl.xs
theorem lc_snoc {a x : Sl (Sl Ch)} {s : Sv} {l : List Ch} (h : x.xs = a.xs ++ [⟨s, l⟩]) : lc x = lc a ++ [l] := by rw [lc, h]; simp [lc]
theorem part_raw (j : List UInt8) (d m : Nat) : (j.drop (d + 2)).take (d + 2 + m - (d + 2)) = ((j.drop d).drop 2).take m := by
  rw [List.drop_drop, Nat.add_sub_cancel_left]
theorem allJ_step {j : List UInt8} {d : Nat} {acc : List (List Ch)} (h : allJ j = (acc ++ (allJ (j.drop d)).1, d + (allJ (j.drop d)).2)) (h1 : ¬ (j.drop d).length < 2) (h2 : ¬ (j.drop d).length < 2 + de ((j.drop d).take 2)) (h3 : jreadE (((j.drop d).drop 2).take (de ((j.drop d).take 2))) = 0) :
    allJ j = ((acc ++ [jreadV (((j.drop d).drop 2).take (de ((j.drop d).take 2)))]) ++ (allJ (j.drop (d + 2 + de ((j.drop d).take 2)))).1, d + 2 + de ((j.drop d).take 2) + (allJ (j.drop (d + 2 + de ((j.drop d).take 2)))).2) := by
  have e : (j.drop d).drop (2 + de ((j.drop d).take 2)) = j.drop (d + 2 + de ((j.drop d).take 2)) := by rw [List.drop_drop, Nat.add_assoc]
  rw [h, allJ_ok h1 h2 h3, e]
  simp only [List.append_assoc, List.singleton_append, Nat.add_assoc]
theorem playF_stop : ∀ {p : List (List Ch)} {t : List Rt} {r : List (List Ch)}, (playF t p).2.2 ≠ 0 → playF t (p ++ r) = playF t p
  | [], t, r, h => by rw [playF] at h; exact absurd rfl h
  | a :: p, t, r, h => by
    rw [List.cons_append, playF, playF]
    rw [playF] at h
    by_cases ha : appE t a = 0
    · rw [if_pos ha] at h
      rw [if_pos ha, if_pos ha, playF_stop h]
    · rw [if_neg ha, if_neg ha]
theorem playF_step {l : List (List Ch)} {t q : List Rt} {i : Nat} {g : List Ch} (h : playF t (l.take i) = (q, i, 0)) (hg : l[i]? = some g) : playF t (l.take (i + 1)) = if appE q g = 0 then (appL q g, i + 1, 0) else (q, i, appE q g) := by
  rw [List.take_add_one, hg, Option.toList_some, playF_snoc, h, if_pos rfl]
theorem playF_end {l : List (List Ch)} {t q : List Rt} {i : Nat} {g : List Ch} (h : playF t (l.take i) = (q, i, 0)) (hg : l[i]? = some g) (he : appE q g ≠ 0) : playF t l = (q, i, appE q g) := by
  have h1 := playF_step h hg
  rw [if_neg he] at h1
  have h2 := playF_stop (p := l.take (i + 1)) (t := t) (r := l.drop (i + 1)) (by rw [h1]; exact he)
  rw [List.take_append_drop, h1] at h2
  exact h2
theorem framesJ_many : ∀ p : List (List Ch), p.length ≤ (framesJ p).length
  | [] => Nat.le_refl _
  | l :: p => by
    have := framesJ_many p
    have := frame_length l
    rw [framesJ_cons, List.length_append, List.length_cons]; omega
theorem allJ_many (l : List UInt8) : (allJ l).1.length ≤ l.length := by
  obtain ⟨h1, _, h3⟩ := allJ_whole l
  have h4 := framesJ_many (allJ l).1
  rw [← h3, List.length_take] at h4; omega
theorem lc_length (a : Sl (Sl Ch)) : (lc a).length = a.xs.length := by simp [lc]
theorem chcells_set {r r' : Rt} {g : Bool} {i : Nat} {v : Value} (hi : i < 19) (h : (rcells r).setIfInBounds i v = rcells r') : (chcells ⟨r, g⟩).setIfInBounds i v = chcells ⟨r', g⟩ := by
  have ec : ∀ r, chcells ⟨r, g⟩ = rcells r ++ #[.bool g] := fun r => rfl
  have hs := rcells_size r
  rw [ec, ec, ← h]
  generalize rcells r = A at hs ⊢
  exact set_push (by omega)
theorem rdch_at {b : List UInt8} {x0 x1 x2 x18 x19 : UInt8} (h0 : b[0]? = some x0) (h1 : b[1]? = some x1) (h2 : b[2]? = some x2) (h18 : b[19]? = some x18) (h19 : b[20]? = some x19) :
    rdch b = ⟨⟨⟨if x1 = 1 then 128 else 32, x2.toNat, kpre (fun j => (b.getD (3 + j) 0).toNat) 16⟩, hop16 x18 x19⟩, decide ((x0.toNat : Int) = 1)⟩ := by
  have e : ∀ (i : Nat) x, b[i]? = some x → b.getD i 0 = x := fun i x h => by simp [List.getD, h]
  have ed : decide (x0 = 1) = decide ((x0.toNat : Int) = 1) := by rw [decide_eq_decide, ← UInt8.toNat_inj]; simp; omega
  rw [rdch, e 0 x0 h0, ed, kpre_all]
  congr 1
  show (⟨⟨if (b.drop 1).getD 0 0 = 1 then 128 else 32, ((b.drop 1).getD 1 0).toNat, kof fun i => ((b.drop 1).getD (2 + i) 0).toNat⟩, hop16 ((b.drop 1).getD 18 0) ((b.drop 1).getD 19 0)⟩ : Rt) = _
  simp only [getD_drop, Nat.reduceAdd]
  rw [e 1 x1 h1, e 2 x2 h2, e 19 x18 h18, e 20 x19 h19]
  simp only [show ∀ i, 1 + (2 + i) = 3 + i from fun i => by omega]
theorem chunk_ref {c : List UInt8} {i : Nat} : (c.drop (2 + 21 * i)).take (23 + 21 * i - (2 + 21 * i)) = chunk (c.drop 2) i := by
  rw [chunk, List.drop_drop, show 23 + 21 * i - (2 + 21 * i) = 21 by omega]
theorem chunk_length {c : List UInt8} {i n : Nat} (h : c.length = 21 * n) (hi : i < n) : (chunk c i).length = 21 := by
  rw [chunk, List.length_take, List.length_drop]; omega
end Go.Eng

/- A slice that is either one that the call was given, or one of its own. -/
set_option linter.unusedSimpArgs false
set_option linter.unusedVariables false
namespace Go.Eng
open Go.RowKit
section
variable {w0 : World} {L : List Ent} {α : Type} {enc : α → Array Value} {c : Nat} {xs ys : List α} {s t : Sv} {g : Bool}
def selE (g : Bool) (e : Ent) : Ent := if g = true then .emp else e
/-- If g, the slice is the one that was there. -/
class SelG (g : Bool) (s : Sv) {α : outParam Type} (xs : outParam (List α)) (t : outParam Sv) (ys : outParam (List α)) : Prop where
  h : g = true → s = t ∧ xs = ys
class OwnsS (L : List Ent) (s : Sv) {α : outParam Type} (enc : outParam (α → Array Value)) (c : outParam Nat) (xs : outParam (List α)) (g : outParam Bool) (i : outParam Nat) : Prop where
  h : L[i]? = some (selE g (own enc c s xs))
instance (priority := high) OwnsS.here {L : List Ent} : OwnsS (selE g (own enc c s xs) :: L) s enc c xs g 0 := ⟨rfl⟩
instance OwnsS.there {L : List Ent} {e : Ent} {i : Nat} [q : OwnsS L s enc c xs g i] : OwnsS (e :: L) s enc c xs g (i + 1) := ⟨by simpa using q.h⟩
instance (priority := low) Hd.sel {i : Nat} [q : OwnsS L s enc c xs g i] [r : SelG g s xs t ys] [h : HdE w0 L enc c t ys] : Hd w0 L s enc c xs := ⟨fun w hw => by
  cases hg : g with
  | true =>
    obtain ⟨rfl, rfl⟩ := r.h hg
    exact h.h w hw
  | false =>
    have e : (own enc c s xs).sat (fun k => w.heap[k]?) := by
      have := hw.get q.h
      rw [hg] at this; exact this
    exact e.1⟩
theorem Mem.selT {e : Ent} {w : World} (h : Mem w0 L w) : Mem w0 (selE true e :: L) w := Mem.emp_iff.2 h
theorem Mem.selF {e : Ent} {w : World} (h : Mem w0 (e :: L) w) : Mem w0 (selE false e :: L) w := h
/-- One that is either what the call before had, or its own, behind another one that is so. -/
theorem Mem.selJoin {g g' : Bool} {s s' : Sv} {w : World} (h : Mem w0 (selE g' (own enc c s' ys) :: selE g (own enc c s xs) :: L) w) (hg : g' = true → s' = s ∧ ys = xs) : Mem w0 (selE (g' && g) (own enc c s' ys) :: L) w := by
  cases g' with
  | true =>
    obtain ⟨rfl, rfl⟩ := hg rfl
    exact Mem.emp_iff.1 h
  | false =>
    rw [Bool.false_and]
    exact h.sub (List.Sublist.cons_cons _ (List.sublist_cons_self _ _))
end
section
variable {P : Program} {N : Fra} {w0 : World} {env : Env} {L : List Ent} {l : List Oper} {Q : Exit → Act → World → Prop} {rest : List Oper} {d : Option Tmp} {ty : TypeId} {ps : String} {af : Array Edge}
/-- A guard that is known to hold: as if there were none. -/
theorem sq_gd {op} {j t : Nat} {b g : Bool} (hj : (l[j]?).bind (·.dst) = some t) (hv : look env t = some (.bool g)) (ht : g = b) (h : Sq P N w0 l Q (⟨d, op, ty, ps, af, none⟩ :: rest) env L) :
    Sq P N w0 l Q (⟨d, op, ty, ps, af, some (j, b)⟩ :: rest) env L := fun a w ha hw => by
  have h1 := h a w ha hw
  unfold wpList at h1 ⊢
  rw [if_pos (wanted_none rfl)] at h1
  rw [wanted_some ha rfl hj hv, ht, beq_self_eq_true, if_pos rfl]
  exact h1
end
/-! Slices of slices whose elements are others'. -/
section
variable {w0 : World} {L : List Ent} {τ : Type} [Deep τ]
instance (priority := low) AllG.of {a : Sl τ} [q : HdD w0 L a] : AllG w0 L a.xs := ⟨fun w hw => (q.h w hw).2⟩
instance AllG.append {xs ys : List τ} [a : AllG w0 L xs] [b : AllG w0 L ys] : AllG w0 L (xs ++ ys) := ⟨fun w hw x hx => by
  rcases List.mem_append.1 hx with h | h
  · exact a.h w hw x h
  · exact b.h w hw x h⟩
/-- Elements that are all a given slice's. -/
class Within (xs : List τ) (a : outParam (Sl τ)) : Prop where
  h : ∀ x ∈ xs, x ∈ a.xs
instance (priority := low) AllG.within {xs : List τ} {a : Sl τ} [q : Within xs a] [g : HdD w0 L a] : AllG w0 L xs := ⟨fun w hw x hx => (g.h w hw).2 x (q.h x hx)⟩
end
section
variable {w0 : World} {L : List Ent} {τ : Type} [Deep τ]
instance AllG.take {xs : List τ} {n : Nat} [q : AllG w0 L xs] : AllG w0 L (xs.take n) := ⟨fun w hw x hx => q.h w hw x (List.mem_of_mem_take hx)⟩
instance AllG.drop {xs : List τ} {n : Nat} [q : AllG w0 L xs] : AllG w0 L (xs.drop n) := ⟨fun w hw x hx => q.h w hw x (List.mem_of_mem_drop hx)⟩
/-- A slice by a name. -/
class NamedD (a : Sl τ) (s : outParam Sv) (xs : outParam (List τ)) : Prop where
  h : a = ⟨s, xs⟩
instance (priority := low) HdD.named {a : Sl τ} {s : Sv} {xs : List τ} [n : NamedD a s xs] [q : HdD w0 L (⟨s, xs⟩ : Sl τ)] : HdD w0 L a := ⟨by rw [n.h]; exact q.h⟩
end
end Go.Eng

/- Journals cut, and with a byte turned. No program in sight. -/
set_option linter.unusedSimpArgs false
set_option linter.unusedVariables false
namespace Go.Eng
open Go.Kb Go.RowKit
/-- Where batches end. -/
def endsJ (p : List (List Ch)) : List Int := (List.range p.length).map fun k => ((framesJ (p.take (k + 1))).length : Int)
theorem endsJ_length (p : List (List Ch)) : (endsJ p).length = p.length := by simp [endsJ]
theorem endsJ_snoc (p : List (List Ch)) (l : List Ch) : endsJ p ++ [((framesJ (p ++ [l])).length : Int)] = endsJ (p ++ [l]) := by
  rw [endsJ, endsJ, List.length_append, List.length_singleton, List.range_succ, List.map_append]
  congr 1
  · refine List.map_congr_left fun k hk => ?_
    rw [List.take_append_of_le_length (by have := List.mem_range.1 hk; omega)]
  · rw [List.map_cons, List.map_nil, List.take_of_length_le (by simp)]
theorem endsJ_at {p : List (List Ch)} {k : Nat} (h : k < p.length) : (endsJ p)[k]? = some ((framesJ (p.take (k + 1))).length : Int) := by
  rw [endsJ, List.getElem?_map, List.getElem?_range h]; rfl
theorem framesJ_take (p : List (List Ch)) (k : Nat) : framesJ p = framesJ (p.take k) ++ framesJ (p.drop k) := by rw [← framesJ_append, List.take_append_drop]
theorem framesJ_le (p : List (List Ch)) (k : Nat) : (framesJ (p.take k)).length ≤ (framesJ p).length := by
  have := congrArg List.length (framesJ_take p k)
  rw [List.length_append] at this; omega
theorem framesJ_at {p : List (List Ch)} {k : Nat} {l : List Ch} (h : p[k]? = some l) : framesJ (p.take (k + 1)) = framesJ (p.take k) ++ frame l := by
  rw [List.take_add_one, h]; exact framesJ_snoc _ _
theorem jput_six {l : List Ch} (h : jputE l = 0) : 6 ≤ (jputV l).length := by
  rw [jputV, if_pos h, sealed, List.length_append, be_length, jbody_length _ _ (Nat.le_refl _)]; omega
theorem cut_law {p : List (List Ch)} (hp : ∀ x ∈ p, jputE x = 0) {a wh : Nat} (hw : wh ≤ p.length) (h1 : (framesJ (p.take wh)).length ≤ a) (h2 : wh < p.length → a < (framesJ (p.take (wh + 1))).length) :
    allJ ((framesJ p).take a) = (p.take wh, (framesJ (p.take wh)).length) := by
  have e : (framesJ p).take a = framesJ (p.take wh) ++ (framesJ (p.drop wh)).take (a - (framesJ (p.take wh)).length) := by
    conv => lhs; rw [framesJ_take p wh]
    rw [List.take_append, List.take_of_length_le h1]
  have hz : allJ ((framesJ (p.drop wh)).take (a - (framesJ (p.take wh)).length)) = ([], 0) := by
    rcases Nat.lt_or_ge wh p.length with h | h
    · have h3 := h2 h
      have hg : p[wh]? = some p[wh] := by simp [h]
      rw [framesJ_at hg, List.length_append] at h3
      rw [dropAt hg, framesJ_cons, List.take_append_of_le_length (by omega)]
      exact allJ_part (by omega)
    · rw [List.drop_eq_nil_of_le h]
      exact allJ_short (by simp [framesJ])
  rw [e, allJ_frames (fun x hx => hp x (List.mem_of_mem_take hx)), hz]
  simp
theorem turn_law {p : List (List Ch)} (hp : ∀ x ∈ p, jputE x = 0) {k i : Nat} {x y : UInt8} (hk : k < p.length) (h1 : (framesJ (p.take k)).length + 2 ≤ i) (h2 : i < (framesJ (p.take (k + 1))).length) (hx : (framesJ p)[i]? = some x) (hn : x ≠ y) :
    allJ ((framesJ p).set i y) = (p.take k, (framesJ (p.take k)).length) := by
  have hg : p[k]? = some p[k] := by simp [hk]
  rw [framesJ_at hg, List.length_append] at h2
  have e : framesJ p = framesJ (p.take k) ++ (frame p[k] ++ framesJ (p.drop (k + 1))) := by
    conv => lhs; rw [framesJ_take p k]
    rw [dropAt hg, framesJ_cons]
  have hx' : (frame p[k])[i - (framesJ (p.take k)).length]? = some x := by
    rw [e, List.getElem?_append_right (by omega), List.getElem?_append_left (by omega)] at hx
    exact hx
  have es : (framesJ p).set i y = framesJ (p.take k) ++ ((frame p[k]).set (i - (framesJ (p.take k)).length) y ++ framesJ (p.drop (k + 1))) := by
    conv => lhs; rw [e]
    rw [List.set_append_right _ _ (by omega), List.set_append_left _ _ (by omega)]
  rw [es, allJ_frames (fun x hx => hp x (List.mem_of_mem_take hx)), allJ_turned (hp _ (List.getElem_mem hk)) (by omega) hx' hn]
  simp
theorem all_frames {p : List (List Ch)} (hp : ∀ x ∈ p, jputE x = 0) : allJ (framesJ p) = (p, (framesJ p).length) := by
  have := allJ_frames hp []
  rw [List.append_nil, allJ_short (l := []) (by decide)] at this
  simpa using this
theorem framesJ_max {p : List (List Ch)} {l : List Ch} : (framesJ (p ++ [l])).length ≤ (framesJ p).length + 4208 := by
  have h1 := jputV_length (l := l)
  rw [framesJ_snoc, List.length_append, frame_length]; omega
theorem jadd_no {b : List UInt8} {l : List Ch} (h : jputE l ≠ 0) : jaddV b l = b := if_neg h
theorem jadd_frames {p : List (List Ch)} {l : List Ch} (h : jputE l = 0) : jaddV (framesJ p) l = framesJ (p ++ [l]) := by rw [jadd_frame h, framesJ_snoc]
/-- A bit turned is another byte. -/
theorem bit_turned (x : UInt8) (n : Nat) (h : n < 8) : x ≠ x ^^^ (UInt8.ofNat (2 ^ n)) := by
  intro e
  have h1 : (UInt8.ofNat (2 ^ n)) = 0 := by
    have := congrArg (fun z => x ^^^ z) e
    simpa [← UInt8.xor_assoc] using this.symm
  have : ∀ m : Fin 8, UInt8.ofNat (2 ^ m.val) ≠ 0 := by decide
  exact this ⟨n, h⟩ h1
theorem playF_right {t : List Rt} (h : tright t = true) : ∀ p, tright (playF t p).1 = true := by
  intro p
  induction p generalizing t with
  | nil => exact h
  | cons a p ih =>
    rw [playF]; split
    · exact ih (appL_right h a)
    · exact h
theorem play_len {t : List Rt} {j : List UInt8} {n : Nat} (h : t.length ≤ n) (hn : 256 ≤ n) : (playV t j).1.length ≤ n := by
  unfold playV
  split
  · rename_i hr
    exact Nat.le_trans (tr_len (playF_right hr _)) hn
  · exact h
def lz (zs : List (Sl Ch)) : List (List Ch) := zs.map Sl.xs
theorem lz_snoc (zs : List (Sl Ch)) (z : Sl Ch) : lz (zs ++ [z]) = lz zs ++ [z.xs] := by simp [lz]
theorem lz_length (zs : List (Sl Ch)) : (lz zs).length = zs.length := by simp [lz]
theorem lz_take (zs : List (Sl Ch)) (n : Nat) : lz ((zs.drop 0).take (n - 0)) = (lz zs).take n := by simp [lz, List.map_take]
theorem shl_one {n : Nat} (h : n < 8) : IntKind.u8.wrap (1 * 2 ^ min ((n : Nat) : Int).toNat IntKind.u8.bits) = ((UInt8.ofNat (2 ^ n)).toNat : Int) := by
  have : ∀ m : Fin 8, IntKind.u8.wrap (1 * 2 ^ min ((m.val : Nat) : Int).toNat IntKind.u8.bits) = ((UInt8.ofNat (2 ^ m.val)).toNat : Int) := by decide
  exact this ⟨n, h⟩
end Go.Eng

