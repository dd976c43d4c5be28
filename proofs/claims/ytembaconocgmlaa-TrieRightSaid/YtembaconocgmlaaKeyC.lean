/- bytes.Compare over two keys. -/
import Derived.Lib.BytesEntry
import Derived.Test.YtembaconocgmlaaKinst
set_option linter.unusedSimpArgs false
set_option linter.unusedVariables false
namespace Go.Proofs.Ytembaconocgmlaa
open Go.Eng Go.Kb
open Go.RowKit

def kints (k : Key) : List Int := (List.range 16).map fun i => (kbyte k i : Int)
theorem kints_get (k : Key) (j : Nat) (x : Int) (h : (kints k)[j]? = some x) : j < 16 ∧ x = kbyte k j := by
  have hl : j < 16 := by have := (List.getElem?_eq_some_iff.1 h).1; simpa [kints] using this
  refine ⟨hl, ?_⟩
  simp [kints, hl] at h
  exact h.symm
theorem cmpB_eq {x y : UInt8} {xs ys : List UInt8} : Lib.compareBytes (x :: xs) (y :: ys) = if x.toNat < y.toNat then -1 else if y.toNat < x.toNat then 1 else Lib.compareBytes xs ys := by
  simp [Lib.compareBytes, UInt8.lt_iff_toNat_lt]
theorem cmpB_key (a b : Key) : ∀ (n i : Nat), i + n = 16 → (∀ j, j < i → kbyte a j = kbyte b j) →
    Lib.compareBytes ((List.range' i n).map fun j => (kbyte a j).toUInt8) ((List.range' i n).map fun j => (kbyte b j).toUInt8) = kcmp a b
  | 0, i, hi, hs => by
    have : a = b := key_ext_byte fun j hj => hs j (by omega)
    subst this
    simp [Lib.compareBytes, kcmp]
  | n + 1, i, hi, hs => by
    have ha := kbyte_lt a i
    have hb := kbyte_lt b i
    rw [List.range'_succ, List.map_cons, List.map_cons, cmpB_eq]
    have ea : (kbyte a i).toUInt8.toNat = kbyte a i := by simp; omega
    have eb : (kbyte b i).toUInt8.toNat = kbyte b i := by simp; omega
    rw [ea, eb]
    by_cases h1 : kbyte a i < kbyte b i
    · rw [if_pos h1]
      have := key_lt_of_byte (by omega) hs h1
      unfold kcmp; rw [if_pos this]
    · rw [if_neg h1]
      by_cases h2 : kbyte b i < kbyte a i
      · rw [if_pos h2]
        have := key_lt_of_byte (by omega) (fun j hj => (hs j hj).symm) h2
        unfold kcmp; rw [if_neg (by omega), if_pos this]
      · rw [if_neg h2]
        exact cmpB_key a b n (i + 1) (by omega) fun j hj => by
          by_cases e : j = i
          · subst e; omega
          · exact hs j (by omega)
theorem bytesOf_kints (k : Key) : (⟨ByteArray.empty.data ++ (Lib.bytesOf (kints k)).toArray⟩ : ByteArray).data.toList = (List.range' 0 16).map fun j => (kbyte k j).toUInt8 := by
  simp [Lib.bytesOf, kints, List.range_eq_range']
/-- bytes.Compare of two keys. -/
theorem cmp_c (a b : Key) (p q : Addr) (c c' : Nat) (w : World) (hp : ∀ j, j < 16 → w.cell? (p.add j) = some (.int .u8 (kbyte a j))) (hq : ∀ j, j < 16 → w.cell? (q.add j) = some (.int .u8 (kbyte b j))) :
    Calls Try.prog 72 [.slice (some p) 16 c, .slice (some q) 16 c'].toArray w fun e w' => e = .returned (.int .i64 (kcmp a b)) ∧ Mem w [] w' := by
  refine calls_of (args := [_, _]) Try.func72 rfl Try.ntmps72 rfl ?_
  change Cw _ _ _ _ _ [(0, .slice (some p) 16 c), (1, .slice (some q) 16 c')] []
  refine cw_seq ?_
  refine cw_region ?_
  refine sq_r (ry_assign rfl) ?_
  refine sq_nil ?_
  refine ex_then ?_
  refine cw_seq ?_
  refine cw_region ?_
  refine sq_r (ry_move rfl) ?_
  refine sq_r (ry_move rfl) ?_
  refine sq_r (v := .int .i64 (kcmp a b)) ?_ ?_
  · intro aa w1 ha hw
    have hpb : ∀ j, j < 16 → w1.cell? (p.add j) = some (.int .u8 (kbyte a j)) := fun j hj => by
      rw [← hp j hj]; exact hw.below.cell (block_lt_of_cell (hp j hj))
    have hqb : ∀ j, j < 16 → w1.cell? (q.add j) = some (.int .u8 (kbyte b j)) := fun j hj => by
      rw [← hq j hj]; exact hw.below.cell (block_lt_of_cell (hq j hj))
    have r1 := Lib.run_loadBytesX (P := Try.prog) w1 (kints a) p .empty (fun j x hx => by obtain ⟨h1, rfl⟩ := kints_get a j x hx; exact hpb j h1)
    have r2 := Lib.run_loadBytesX (P := Try.prog) w1 (kints b) q .empty (fun j x hx => by obtain ⟨h1, rfl⟩ := kints_get b j x hx; exact hqb j h1)
    have l1 : (kints a).length = 16 := by simp [kints]
    have l2 : (kints b).length = 16 := by simp [kints]
    rw [l1] at r1
    rw [l2] at r2
    have e5 := ha.ev (x := .tmp 5) (v := .slice (some p) 16 c) rfl
    have e6 := ha.ev (x := .tmp 6) (v := .slice (some q) 16 c') rfl
    have hrun : (callFunc 89 #[.slice (some p) 16 c, .slice (some q) 16 c']).run Try.prog w1 = .ok (.value (.int .i64 (kcmp a b))) w1 := by
      rw [run_callFunc_extern Try.func89 (by kernel_rfl) (by kernel_rfl) (by kernel_rfl) (e := Extern.BytealgCompare.compare) (by kernel_rfl)]
      have : (Extern.BytealgCompare.compare #[.slice (some p) 16 c, .slice (some q) 16 c']).run Try.prog w1 = .ok (.int .i64 (kcmp a b)) w1 := by
        change Sem.run Try.prog (do pure (goInt (Extern.BytealgCompare.cmp (← Extern.Bytes.bytesOf (.slice (some p) 16 c)) (← Extern.Bytes.bytesOf (.slice (some q) 16 c'))))) w1 = _
        simp only [Extern.Bytes.bytesOf, Sem.run_bind, r1, r2, Sem.run_pure, Result.andThen]
        rw [Lib.cmp_eq, bytesOf_kints, bytesOf_kints, cmpB_key a b 16 0 rfl (fun j h => by omega)]
        rfl
      rw [this]; rfl
    simp [execOp, resolve, Act.eval, Deferred.ofValue, invoke] at e5 e6 ⊢
    rw [e5, e6, hrun]
  refine sq_r (ry_assign rfl) ?_
  refine sq_nil ?_
  refine ex_then ?_
  refine cw_ret ?_
  refine ex_ret (.inl rfl) (res_tmp rfl rfl) (fun w hw => ?_)
  exact ⟨rfl, hw.sub (List.nil_sublist _)⟩

end Go.Proofs.Ytembaconocgmlaa
