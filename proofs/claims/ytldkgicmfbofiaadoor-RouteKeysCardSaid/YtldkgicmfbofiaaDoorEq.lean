/- '==' on structs and arrays of plain cells. -/
import Derived.Test.YtldkgicmfbofiaaDoorEng
import Derived.DeepKeys
set_option linter.unusedSimpArgs false
set_option linter.unusedVariables false
namespace Go.Eng

def kdOk : Nat → Value → Value → Prop
  | 0, .int k _, .int k' _ => k = k'
  | 1, .bool _, .bool _ => True
  | 2, .string _, .string _ => True
  | _, _, _ => False

def isAggV : Value → Bool
  | .agg _ => true
  | _ => false

def EqF (P : Program) (d : Nat) (t : TypeId) (isA : Bool) (ks : List Nat) : Prop :=
  ∀ (w : World) (x y : Value), isAggV x = isA → isAggV y = isA → x.cells.size = ks.length → y.cells.size = ks.length →
    (∀ (i k : Nat), ks[i]? = some k → ∃ u v, x.cells[i]? = some u ∧ y.cells[i]? = some v ∧ kdOk k u v) →
    ∃ r : Bool, (Op.equalIn d t x y).run P w = .ok r w ∧ (r = true ↔ ∀ i, i < ks.length → x.cells[i]? = y.cells[i]?)

section
variable {P : Program} {d : Nat} {t : TypeId}

theorem cells_one {x : Value} (h : isAggV x = false) : x.cells = #[x] := by
  cases x <;> simp_all [isAggV, Value.cells]

theorem eqF_int {q : IntKind} (hu : P.underlying t = some (.int q)) : EqF P (d + 1) t false [0] := fun w x y hx hy _ _ hk => by
  obtain ⟨u, v, h1, h2, h3⟩ := hk 0 0 rfl
  rw [cells_one hx] at h1 ⊢
  rw [cells_one hy] at h2 ⊢
  simp at h1 h2
  subst h1 h2
  cases x <;> cases y <;> simp only [kdOk] at h3
  subst h3
  exact ⟨_, run_equalIn_int w d t _ q _ _ hu, by simp⟩
theorem eqF_bool (hu : P.underlying t = some .bool) : EqF P (d + 1) t false [1] := fun w x y hx hy _ _ hk => by
  obtain ⟨u, v, h1, h2, h3⟩ := hk 0 1 rfl
  rw [cells_one hx] at h1 ⊢
  rw [cells_one hy] at h2 ⊢
  simp at h1 h2
  subst h1 h2
  cases x <;> cases y <;> simp only [kdOk] at h3
  exact ⟨_, run_equalIn_bool' w d t _ _ hu, by simp⟩

theorem part_cells {e : TypeId} {isA : Bool} {n : Nat} (hA : ∃ de, P.underlying e = some de ∧ isRowD de = isA) (hn : (P.info? e).map (·.size) = some n) (h1 : isA = false → n = 1)
    {xs : Array Value} {off : Nat} (hlt : off + n ≤ xs.size) (hp : ∀ i u, off ≤ i → i < off + n → xs[i]? = some u → isAggV u = false) (w : World) :
    ∃ a, (part e xs off).run P w = .ok a w ∧ isAggV a = isA ∧ a.cells.size = n ∧ ∀ i, i < n → a.cells[i]? = xs[off + i]? := by
  obtain ⟨de, hu, hr⟩ := hA
  cases isA with
  | true =>
    refine ⟨.agg (xs.extract off (off + n)), ?_, rfl, by simp [Value.cells]; omega, fun i hi => ?_⟩
    · simp only [part, Sem.run_bind, run_isAgg' w hu, hr, Result.andThen_ok, if_true, run_sizeOf' w hn, Sem.run_pure]
    · simp [Value.cells, Array.getElem?_extract]
      intro h; omega
  | false =>
    have := h1 rfl
    subst this
    have hx : xs[off]? = some xs[off] := by simp [show off < xs.size by omega]
    have hnA := hp off _ (Nat.le_refl _) (by omega) hx
    refine ⟨xs[off], ?_, hnA, by rw [cells_one hnA]; rfl, fun i hi => ?_⟩
    · simp only [part, Sem.run_bind, run_isAgg' w hu, hr, Result.andThen_ok, hx, Bool.false_eq_true, if_false, Sem.run_pure]
    · obtain rfl : i = 0 := by omega
      rw [cells_one hnA, Nat.add_zero, hx]; rfl

theorem kdOk_plain {k : Nat} {u v : Value} (h : kdOk k u v) : isAggV u = false ∧ isAggV v = false := by
  unfold kdOk at h
  split at h <;> simp_all [isAggV]

/-- What is known of a part's type. -/
structure PartT (P : Program) (d : Nat) (e : TypeId) (isA : Bool) (ks : List Nat) : Prop where
  row : ∃ de, P.underlying e = some de ∧ isRowD de = isA
  size : (P.info? e).map (·.size) = some ks.length
  one : isA = false → ks.length = 1
  eq : EqF P d e isA ks

theorem eq_step {e : TypeId} {isA : Bool} {ks : List Nat} (he : PartT P d e isA ks) {xs ys : Array Value} {off : Nat} (hx : off + ks.length ≤ xs.size) (hy : off + ks.length ≤ ys.size)
    (hk : ∀ (i k : Nat), ks[i]? = some k → ∃ u v, xs[off + i]? = some u ∧ ys[off + i]? = some v ∧ kdOk k u v) (w : World) :
    ∃ a b r, (part e xs off).run P w = .ok a w ∧ (part e ys off).run P w = .ok b w ∧ (Op.equalIn d e a b).run P w = .ok r w ∧ (r = true ↔ ∀ i, i < ks.length → xs[off + i]? = ys[off + i]?) := by
  have plain : ∀ i, off ≤ i → i < off + ks.length → ∃ u v k, xs[i]? = some u ∧ ys[i]? = some v ∧ kdOk k u v := fun i h1 h2 => by
    obtain ⟨u, v, h3, h4, h5⟩ := hk (i - off) _ (List.getElem?_eq_getElem (by omega))
    rw [show off + (i - off) = i by omega] at h3 h4
    exact ⟨u, v, _, h3, h4, h5⟩
  obtain ⟨a, a1, a2, a3, a4⟩ := part_cells he.row he.size he.one hx (fun i u h1 h2 h3 => by
    obtain ⟨u', v, k, h4, h5, h6⟩ := plain i h1 h2
    rw [h4] at h3; cases h3; exact (kdOk_plain h6).1) w
  obtain ⟨b, b1, b2, b3, b4⟩ := part_cells he.row he.size he.one hy (fun i u h1 h2 h3 => by
    obtain ⟨u', v, k, h4, h5, h6⟩ := plain i h1 h2
    rw [h5] at h3; cases h3; exact (kdOk_plain h6).2) w
  obtain ⟨r, r1, r2⟩ := he.eq w a b a2 b2 a3 b3 (fun i k hik => by
    obtain ⟨u, v, h1, h2, h3⟩ := hk i k hik
    have hi : i < ks.length := (List.getElem?_eq_some_iff.1 hik).1
    exact ⟨u, v, by rw [a4 i hi]; exact h1, by rw [b4 i hi]; exact h2, h3⟩)
  refine ⟨a, b, r, a1, b1, r1, r2.trans ⟨fun h i hi => ?_, fun h i hi => ?_⟩⟩
  · rw [← a4 i hi, ← b4 i hi]; exact h i hi
  · rw [a4 i hi, b4 i hi]; exact h i hi

theorem run_eqItems' {e : TypeId} {isA : Bool} {ks : List Nat} (he : PartT P d e isA ks) {xs ys : Array Value} (w : World) : ∀ (is : List Nat),
    (∀ j ∈ is, j * ks.length + ks.length ≤ xs.size ∧ j * ks.length + ks.length ≤ ys.size ∧ ∀ (i k : Nat), ks[i]? = some k → ∃ u v, xs[j * ks.length + i]? = some u ∧ ys[j * ks.length + i]? = some v ∧ kdOk k u v) →
    ∃ r : Bool, (Op.eqItems d e ks.length xs ys is).run P w = .ok r w ∧ (r = true ↔ ∀ j ∈ is, ∀ i, i < ks.length → xs[j * ks.length + i]? = ys[j * ks.length + i]?)
  | [], _ => ⟨true, by simp [Op.eqItems], by simp⟩
  | j :: is, h => by
    obtain ⟨h1, h2, h3⟩ := h j (by simp)
    obtain ⟨a, b, r, p1, p2, p3, hiff⟩ := eq_step he h1 h2 h3 w
    obtain ⟨r', hr', hiff'⟩ := run_eqItems' he w is (fun j' hj' => h j' (by simp [hj']))
    simp only [Op.eqItems, Sem.run_bind, p1, p2, p3, Result.andThen_ok]
    cases r
    · refine ⟨false, by simp, ?_⟩
      simp only [Bool.false_eq_true, false_iff]
      intro e
      exact absurd (hiff.2 (e j (by simp))) (by simp)
    · refine ⟨r', by simpa using hr', ?_⟩
      rw [hiff']
      have := hiff.1 rfl
      constructor
      · intro e j' hj'
        rcases List.mem_cons.1 hj' with rfl | hj'
        · exact this
        · exact e j' hj'
      · intro e j' hj'; exact e j' (by simp [hj'])

theorem flat_get {ks : List Nat} : ∀ {n j i : Nat}, j < n → i < ks.length → (List.replicate n ks).flatten[j * ks.length + i]? = ks[i]?
  | 0, j, i, h, _ => by omega
  | n + 1, 0, i, _, hi => by
    rw [List.replicate_succ, List.flatten_cons, Nat.zero_mul, Nat.zero_add, List.getElem?_append_left hi]
  | n + 1, j + 1, i, h, hi => by
    rw [List.replicate_succ, List.flatten_cons, List.getElem?_append_right (by rw [Nat.add_mul]; omega), Nat.add_mul, show j * ks.length + 1 * ks.length + i - ks.length = j * ks.length + i by omega]
    exact flat_get (by omega) hi

theorem eqF_arr {e : TypeId} {n : Nat} {isA : Bool} {ks : List Nat} (hu : P.underlying t = some (.array n e)) (he : PartT P d e isA ks) : EqF P (d + 1) t true (List.replicate n ks).flatten := fun w x y hx hy sx sy hk => by
  cases x <;> simp only [isAggV, Bool.false_eq_true] at hx
  cases y <;> simp only [isAggV, Bool.false_eq_true] at hy
  rename_i xs ys
  simp only [Value.cells] at sx sy hk ⊢
  have hl : (List.replicate n ks).flatten.length = n * ks.length := by simp
  rw [hl] at sx sy ⊢
  obtain ⟨i, hi⟩ : ∃ i, P.info? e = some i := by
    cases h : P.info? e with
    | none => have := he.size; simp [h] at this
    | some i => exact ⟨i, rfl⟩
  have hc : P.cellsOf e = ks.length := by have := he.size; simp [Program.cellsOf, hi] at this ⊢; exact this
  have bound : ∀ j, j < n → j * ks.length + ks.length ≤ n * ks.length := fun j hj => by
    rw [← Nat.succ_mul]; exact Nat.mul_le_mul_right _ hj
  obtain ⟨r, hr, hiff⟩ := run_eqItems' he (xs := xs) (ys := ys) w (List.range n) (fun j hj => by
    have hj' := List.mem_range.1 hj
    have := bound j hj'
    refine ⟨by omega, by omega, fun i k hik => ?_⟩
    have hil : i < ks.length := (List.getElem?_eq_some_iff.1 hik).1
    exact hk (j * ks.length + i) k (by rw [flat_get hj' hil]; exact hik))
  refine ⟨r, by rw [run_equalIn_array w d xs ys hu hi, hc]; exact hr, hiff.trans ⟨fun h q hq => ?_, fun h j hj i hi => ?_⟩⟩
  · have hpos : 0 < ks.length := by
      rcases Nat.eq_zero_or_pos ks.length with h0 | h0
      · rw [h0] at hq; omega
      · exact h0
    have h1 : q / ks.length < n := Nat.div_lt_of_lt_mul (by rw [Nat.mul_comm]; exact hq)
    have h2 := h (q / ks.length) (List.mem_range.2 h1) (q % ks.length) (Nat.mod_lt _ hpos)
    rw [Nat.div_add_mod' ] at h2
    exact h2
  · have := bound j (List.mem_range.1 hj)
    exact h _ (by omega)

/-- Fields one behind the other. -/
def FieldsEq (P : Program) (d : Nat) : Nat → List Field → List Nat → Prop
  | _, [], ks => ks = []
  | off, f :: fs, ks => f.name ≠ "_" ∧ f.offset = off ∧ ∃ isA k1 k2, ks = k1 ++ k2 ∧ PartT P d f.type isA k1 ∧ FieldsEq P d (off + k1.length) fs k2

theorem run_eqFields' {xs ys : Array Value} (w : World) : ∀ (fs : List Field) (off : Nat) (ks : List Nat), FieldsEq P d off fs ks → off + ks.length ≤ xs.size → off + ks.length ≤ ys.size →
    (∀ (i k : Nat), ks[i]? = some k → ∃ u v, xs[off + i]? = some u ∧ ys[off + i]? = some v ∧ kdOk k u v) →
    ∃ r : Bool, (Op.eqFields d xs ys fs).run P w = .ok r w ∧ (r = true ↔ ∀ i, i < ks.length → xs[off + i]? = ys[off + i]?)
  | [], off, ks, h, _, _, _ => by
    simp only [FieldsEq] at h
    subst h
    exact ⟨true, by simp [Op.eqFields], by simp⟩
  | f :: fs, off, ks, h, hx, hy, hk => by
    obtain ⟨hn, ho, isA, k1, k2, rfl, hp, hrest⟩ := h
    simp only [List.length_append] at hx hy
    obtain ⟨a, b, r, p1, p2, p3, hiff⟩ := eq_step hp (xs := xs) (ys := ys) (off := off) (by omega) (by omega) (fun i k hik => by
      have hi : i < k1.length := (List.getElem?_eq_some_iff.1 hik).1
      exact hk i k (by rw [List.getElem?_append_left hi]; exact hik)) w
    obtain ⟨r', hr', hiff'⟩ := run_eqFields' (xs := xs) (ys := ys) w fs (off + k1.length) k2 hrest (by omega) (by omega) (fun i k hik => by
      have := hk (k1.length + i) k (by rw [List.getElem?_append_right (by omega)]; simpa using hik)
      rw [Nat.add_assoc]; exact this)
    subst ho
    simp only [Op.eqFields, hn, ne_eq, not_false_eq_true, if_true, Sem.run_bind, p1, p2, p3, Result.andThen_ok]
    cases r
    · refine ⟨false, by simp, ?_⟩
      simp only [Bool.false_eq_true, false_iff]
      intro e
      exact absurd (hiff.2 fun i hi => e i (by simp; omega)) (by simp)
    · refine ⟨r', by simpa using hr', ?_⟩
      rw [hiff']
      have := hiff.1 rfl
      simp only [List.length_append]
      constructor
      · intro e i hi
        by_cases h1 : i < k1.length
        · exact this i h1
        · have := e (i - k1.length) (by omega)
          rw [show f.offset + k1.length + (i - k1.length) = f.offset + i by omega] at this
          exact this
      · intro e i hi
        have := e (k1.length + i) (by omega)
        rw [Nat.add_assoc]; exact this

theorem eqF_struct {fs : Array Field} {ks : List Nat} (hu : P.underlying t = some (.struct fs)) (hp : P.stoodInHeld t = false) (hf : FieldsEq P d 0 fs.toList ks) : EqF P (d + 1) t true ks := fun w x y hx hy sx sy hk => by
  cases x <;> simp only [isAggV, Bool.false_eq_true] at hx
  cases y <;> simp only [isAggV, Bool.false_eq_true] at hy
  rename_i xs ys
  simp only [Value.cells] at sx sy hk ⊢
  have hfo : P.fieldsOf t = fs := by simp [Program.fieldsOf, hu]
  obtain ⟨r, hr, hiff⟩ := run_eqFields' (xs := xs) (ys := ys) w fs.toList 0 ks hf (by omega) (by omega) (fun i k hik => by
    have := hk i k hik
    simpa using this)
  refine ⟨r, ?_, by simpa using hiff⟩
  rw [run_equalIn_struct w d t xs ys (by rw [hfo]; exact hu) hp, hfo]
  exact hr

/-- '==' of two values of such a type, by what their cells tell. -/
theorem EqF.val {isA : Bool} {ks : List Nat} (h : EqF P 10000 t isA ks) (hA : isA = true) (hg : P.eqGuardType P.depth t = false) {xs ys : Array Value} {r : Bool} (sx : xs.size = ks.length) (sy : ys.size = ks.length)
    (hk : ∀ (i k : Nat), ks[i]? = some k → ∃ u v, xs[i]? = some u ∧ ys[i]? = some v ∧ kdOk k u v) (hr : xs = ys ↔ r = true) : EqV P t (.agg xs) (.agg ys) r where
  h w := by
    subst hA
    obtain ⟨q, h1, h2⟩ := h w (.agg xs) (.agg ys) rfl rfl sx sy hk
    have : q = r := by
      rw [Bool.eq_iff_iff, h2, ← hr]
      simp only [Value.cells]
      constructor
      · intro e
        apply Array.ext_getElem?
        intro i
        by_cases hi : i < ks.length
        · exact e i hi
        · simp [show ¬ i < xs.size by omega, show ¬ i < ys.size by omega]
      · rintro rfl i _; rfl
    rw [h1, this]
  plain := hg
  agg := ⟨xs, ys, rfl, rfl⟩
end

end Go.Eng
