/- Groups of hops: what is computed, and its laws. No program in sight. -/
import Derived.Test.YtajhlgdapiihgaaMj
import Derived.Test.YtajhlgdapiihgaaMc

set_option linter.unusedSimpArgs false
set_option linter.unusedVariables false
namespace Go.Kb
open Go.Eng

/-! Members and groups. -/
structure Mr where
  hop : UInt16
  w : Int
  deriving DecidableEq
def mrcells (x : Mr) : Array Value := #[.int .u16 x.hop.toNat, .int .i64 x.w]
instance : Enc mrcells 2 := ⟨fun _ => rfl, fun x => by simp [mrcells, Value.oneCell']⟩
instance (x : Mr) : CellAt (mrcells x) 0 (.int .u16 x.hop.toNat) := ⟨rfl⟩
instance (x : Mr) : CellAt (mrcells x) 1 (.int .i64 x.w) := ⟨rfl⟩
instance (x : Mr) : SizeIs (mrcells x) 2 := ⟨rfl, Enc.one (enc := mrcells) (c := 2) x⟩
instance : Deep Mr := Deep.flat mrcells 2
instance : FlatT Mr mrcells 2 := ⟨rfl, fun _ => rfl⟩
instance : Plain Mr := ⟨fun _ => rfl⟩
structure Gp where
  num : UInt16
  ms : Sl Mr
def gpcells (x : Gp) : Array Value := #[.int .u16 x.num.toNat, x.ms.sv.val]
instance : Enc gpcells 2 := ⟨fun _ => rfl, fun x => by
  have h1 : (Value.int .u16 x.num.toNat).oneCell' = true := rfl
  simp only [gpcells, List.all_toArray, List.all_cons, List.all_nil, Sv.one, h1, Bool.and_self]⟩
instance (x : Gp) : CellAt (gpcells x) 0 (.int .u16 x.num.toNat) := ⟨rfl⟩
instance (x : Gp) : CellAt (gpcells x) 1 x.ms.sv.val := ⟨rfl⟩
instance (x : Gp) : SizeIs (gpcells x) 2 := ⟨rfl, Enc.one (enc := gpcells) (c := 2) x⟩
instance : Deep Gp where
  c := 2
  cells := gpcells
  size := Enc.size
  one := Enc.one
  good h x := Deep.good h x.ms
  ent x := Deep.ent x.ms
  good_of h x hs := Deep.good_of h x.ms hs
  mono w w' x := Deep.mono w w' x.ms
instance : FlatT Gp gpcells 2 := ⟨rfl, fun _ => rfl⟩
instance {w0 : World} {L : List Ent} {x : Gp} [q : HdD w0 L x] : HdD w0 L x.ms := ⟨q.h⟩
def zmr : Mr := ⟨0, 0⟩
def zgp : Gp := ⟨0, ⟨Sv.none, []⟩⟩

/-! Numbers that rise. -/
def riseAt (l : List UInt16) (i : Nat) : Bool := decide (i = 0) || decide (l.getD (i - 1) 0 < l.getD i 0)
def rise (l : List UInt16) : Bool := (List.range l.length).all (riseAt l)
theorem rise_all {l : List UInt16} (h : ∀ j, j < l.length → riseAt l j = true) : rise l = true := by
  rw [rise, List.all_eq_true]; exact fun j hj => h j (List.mem_range.1 hj)
theorem rise_no {l : List UInt16} {i : Nat} (hi : i < l.length) (h : riseAt l i = false) : rise l = false := by
  rw [rise, List.all_eq_false]; exact ⟨i, List.mem_range.2 hi, by simp [h]⟩
theorem riseAt_pos {l : List UInt16} {i : Nat} {a b : UInt16} (h0 : 0 < i) (ha : l[i - 1]? = some a) (hb : l[i]? = some b) : riseAt l i = decide (a < b) := by
  rw [riseAt, decide_eq_false (by omega), Bool.false_or]; simp [List.getD, ha, hb]
theorem u16_lt {a b : UInt16} : a < b ↔ a.toNat < b.toNat := UInt16.lt_iff_toNat_lt
theorem rise_iff {l : List UInt16} : rise l = true ↔ l.Pairwise (· < ·) := by
  rw [List.pairwise_iff_getElem]
  constructor
  · intro h i j hi hj hij
    have step : ∀ k (hk : k + 1 < l.length), l[k] < l[k + 1] := fun k hk => by
      have := List.all_eq_true.1 h (k + 1) (List.mem_range.2 hk)
      rw [riseAt_pos (by omega) (by simp only [Nat.add_sub_cancel]; exact List.getElem?_eq_getElem (by omega)) (List.getElem?_eq_getElem hk)] at this
      exact of_decide_eq_true this
    obtain ⟨d, rfl⟩ : ∃ d, j = i + 1 + d := ⟨j - (i + 1), by omega⟩
    induction d with
    | zero => exact step i hj
    | succ d ih =>
      have h1 := ih (by omega) (by omega) step
      have h2 := step (i + 1 + d) hj
      exact u16_lt.2 (Nat.lt_trans (u16_lt.1 h1) (u16_lt.1 h2))
  · intro h
    refine rise_all fun j hj => ?_
    rcases Nat.eq_zero_or_pos j with h0 | h0
    · subst h0; rfl
    · rw [riseAt_pos h0 (List.getElem?_eq_getElem (by omega)) (List.getElem?_eq_getElem hj)]
      exact decide_eq_true (h (j - 1) j (by omega) hj (by omega))

/-! Right groups. -/
def mok (m : Mr) : Bool := decide (1 ≤ m.w) && decide (m.w ≤ 100)
def gok (ms : List Mr) : Bool := decide (1 ≤ ms.length) && decide (ms.length ≤ 16) && ms.all mok && rise (ms.map Mr.hop)
theorem gok_iff {ms : List Mr} : gok ms = true ↔ 1 ≤ ms.length ∧ ms.length ≤ 16 ∧ (∀ m ∈ ms, 1 ≤ m.w ∧ m.w ≤ 100) ∧ (ms.map Mr.hop).Pairwise (· < ·) := by
  rw [gok, Bool.and_eq_true, Bool.and_eq_true, Bool.and_eq_true, decide_eq_true_eq, decide_eq_true_eq, rise_iff, List.all_eq_true]
  simp only [mok, Bool.and_eq_true, decide_eq_true_eq, and_assoc]
def wsum : List Mr → Int
  | [] => 0
  | m :: r => m.w + wsum r
theorem wsum_append : ∀ a b : List Mr, wsum (a ++ b) = wsum a + wsum b
  | [], b => by simp [wsum]
  | m :: a, b => by rw [List.cons_append, wsum, wsum, wsum_append a b]; omega
theorem wsum_snoc {ms : List Mr} {i : Nat} {m : Mr} (h : ms[i]? = some m) : wsum (ms.take (i + 1)) = wsum (ms.take i) + m.w := by
  rw [List.take_add_one, h, wsum_append]; simp [wsum]
theorem wsum_bd : ∀ {ms : List Mr}, (∀ m ∈ ms, 1 ≤ m.w ∧ m.w ≤ 100) → (ms.length : Int) ≤ wsum ms ∧ wsum ms ≤ 100 * ms.length
  | [], _ => by simp [wsum]
  | m :: r, h => by
    have h1 := h m (by simp)
    have h2 := wsum_bd fun x hx => h x (List.mem_cons_of_mem m hx)
    rw [wsum, List.length_cons]; omega
def gwt (ms : List Mr) : Int := if gok ms = true then wsum ms else 0
abbrev GV := UInt16 × List Mr
def gval (x : Gp) : GV := (x.num, x.ms.xs)
def gvs (l : List Gp) : List GV := l.map gval
theorem gvs_length (l : List Gp) : (gvs l).length = l.length := by simp [gvs]
theorem gvs_get {l : List Gp} {i : Nat} {x : Gp} (h : l[i]? = some x) : (gvs l)[i]? = some (gval x) := by simp [gvs, h]
def gall (l : List GV) : Bool := decide (l.length ≤ 64) && l.all (fun x => gok x.2) && rise (l.map (·.1))
theorem gall_iff {l : List GV} : gall l = true ↔ l.length ≤ 64 ∧ (∀ x ∈ l, gok x.2 = true) ∧ (l.map (·.1)).Pairwise (· < ·) := by
  rw [gall, Bool.and_eq_true, Bool.and_eq_true, decide_eq_true_eq, rise_iff, List.all_eq_true, and_assoc]

/-! A number's place. -/
def gbehind (l : List GV) (n : UInt16) (j : Nat) : Bool := match l[j]? with
  | some x => !decide (x.1 < n)
  | none => true
def gplN (l : List GV) (n : UInt16) : Nat := bs (gbehind l n) l.length
def gplB (l : List GV) (n : UInt16) : Bool := match l[gplN l n]? with
  | some x => decide (x.1 = n)
  | none => false
theorem gplN_le (l : List GV) (n : UInt16) : gplN l n ≤ l.length := bsl_le _ _ _ (Nat.zero_le _)
theorem gnum_lt {l : List GV} (h : gall l = true) {i j : Nat} {x y : GV} (hij : i < j) (hx : l[i]? = some x) (hy : l[j]? = some y) : x.1 < y.1 := by
  obtain ⟨hi, rfl⟩ := List.getElem?_eq_some_iff.1 hx
  obtain ⟨hj, rfl⟩ := List.getElem?_eq_some_iff.1 hy
  have := (List.pairwise_iff_getElem.1 (gall_iff.1 h).2.2) i j (by simpa using hi) (by simpa using hj) hij
  simpa using this
theorem gbehind_mono {l : List GV} (h : gall l = true) (n : UInt16) (a b : Nat) (hab : a ≤ b) (hb : b < l.length) (ha : gbehind l n a = true) : gbehind l n b = true := by
  obtain ⟨x, hx⟩ : ∃ x, l[a]? = some x := ⟨l[a], by simp [show a < l.length by omega]⟩
  obtain ⟨y, hy⟩ : ∃ y, l[b]? = some y := ⟨l[b], by simp [hb]⟩
  simp only [gbehind, hx, hy, Bool.not_eq_true', decide_eq_false_iff_not] at ha ⊢
  rcases Nat.lt_or_ge a b with h1 | h1
  · have := gnum_lt h h1 hx hy
    rw [u16_lt] at *; omega
  · obtain rfl : a = b := by omega
    obtain rfl := Option.some.inj (hx.symm.trans hy)
    exact ha
theorem gpl_parts {l : List GV} (h : gall l = true) (n : UInt16) : (∀ x ∈ l.take (gplN l n), x.1 < n) ∧ ∀ x ∈ l.drop (gplN l n), ¬ x.1 < n := by
  obtain ⟨h1, h2, h3⟩ := bs_spec (p := gbehind l n) (n := l.length) fun a b => gbehind_mono h n a b
  constructor
  · intro x hx
    obtain ⟨i, hi⟩ := List.mem_iff_getElem?.1 hx
    have hil := (List.getElem?_eq_some_iff.1 hi).1
    rw [List.length_take] at hil
    rw [List.getElem?_take, if_pos (by omega)] at hi
    have := h2 i (by have : gplN l n = bs (gbehind l n) l.length := rfl; omega)
    simpa [gbehind, hi] using this
  · intro x hx
    obtain ⟨i, hi⟩ := List.mem_iff_getElem?.1 hx
    rw [List.getElem?_drop] at hi
    have hil := (List.getElem?_eq_some_iff.1 hi).1
    have := h3 (gplN l n + i) (Nat.le_add_right _ _) hil
    simpa [gbehind, hi] using this
theorem gpl_some {l : List GV} (h : gall l = true) {x : GV} (hx : x ∈ l) : l[gplN l x.1]? = some x ∧ gplB l x.1 = true := by
  obtain ⟨p1, p2⟩ := gpl_parts h x.1
  have e : l = l.take (gplN l x.1) ++ l.drop (gplN l x.1) := (List.take_append_drop _ _).symm
  have hd : x ∈ l.drop (gplN l x.1) := by
    rw [e] at hx
    rcases List.mem_append.1 hx with h1 | h1
    · have := p1 x h1; rw [u16_lt] at this; omega
    · exact h1
  obtain ⟨i, hi⟩ := List.mem_iff_getElem?.1 hd
  rw [List.getElem?_drop] at hi
  have hil := (List.getElem?_eq_some_iff.1 hi).1
  have h0 : i = 0 := by
    apply Classical.byContradiction; intro hn
    obtain ⟨y, hy⟩ : ∃ y, l[gplN l x.1]? = some y := ⟨l[gplN l x.1], by simp [show gplN l x.1 < l.length by omega]⟩
    have h1 := gnum_lt h (show gplN l x.1 < gplN l x.1 + i by omega) hy hi
    exact p2 y (List.mem_iff_getElem?.2 ⟨0, by rw [List.getElem?_drop]; exact hy⟩) h1
  subst h0
  rw [Nat.add_zero] at hi
  exact ⟨hi, by rw [gplB, hi]; simp⟩
theorem gpl_in {l : List GV} {n : UInt16} (h : gplB l n = true) : ∃ x ∈ l, l[gplN l n]? = some x ∧ x.1 = n := by
  rw [gplB] at h
  cases e : l[gplN l n]? with
  | none => rw [e] at h; cases h
  | some x => rw [e] at h; exact ⟨x, List.mem_of_getElem? e, rfl, of_decide_eq_true h⟩
theorem gplB_eq (l : List GV) (n : UInt16) (d : GV) : gplB l n = (decide (((gplN l n : Nat) : Int) < (l.length : Int)) && decide ((l.getD (gplN l n) d).1 = n)) := by
  rcases Nat.lt_or_ge (gplN l n) l.length with h | h
  · have e : l[gplN l n]? = some l[gplN l n] := by simp [h]
    rw [gplB, e, List.getD_eq_getElem?_getD, e]; simp [h]
  · rw [gplB, List.getElem?_eq_none h, decide_eq_false (by omega)]; rfl

/-! Who is picked. -/
def pickM : List Mr → Int → Option UInt16
  | [], _ => none
  | m :: r, x => if x < m.w then some m.hop else pickM r (x - m.w)
def pickAt (l : List GV) (n : UInt16) (h : Nat) : Option UInt16 := pickM (l.getD (gplN l n) (0, [])).2 ((h % (gwt (l.getD (gplN l n) (0, [])).2).toNat : Nat) : Int)
def pickE (l : List GV) (n : UInt16) (h : Nat) : Int := if gall l = true then (if gplB l n = true then (if (pickAt l n h).isSome = true then 0 else 6) else 6) else 1
def pickH (l : List GV) (n : UInt16) (h : Nat) : UInt16 := if pickE l n h = 0 then (pickAt l n h).getD 0 else 0
theorem pickM_mem : ∀ {ms : List Mr} {x : Int} {h : UInt16}, pickM ms x = some h → h ∈ ms.map Mr.hop
  | [], _, _, e => by cases e
  | m :: r, x, h, e => by
    rw [pickM] at e
    split at e
    · rw [← Option.some.inj e]; simp
    · exact List.mem_cons_of_mem _ (pickM_mem e)
theorem pickM_some : ∀ {ms : List Mr} {x : Int}, 0 ≤ x → x < wsum ms → ∃ h, pickM ms x = some h
  | [], x, h0, h => by rw [wsum] at h; omega
  | m :: r, x, h0, h => by
    rw [pickM]; split
    · exact ⟨_, rfl⟩
    · exact pickM_some (by omega) (by rw [wsum] at h; omega)
theorem gwt_ok {ms : List Mr} (h : gok ms = true) : gwt ms = wsum ms ∧ 1 ≤ wsum ms ∧ wsum ms ≤ 1600 := by
  obtain ⟨h1, h2, h3, _⟩ := gok_iff.1 h
  have := wsum_bd h3
  exact ⟨if_pos h, by omega, by omega⟩
/-- What a group of its own gives. -/
def pickG (ms : List Mr) (h : Nat) : UInt16 := (pickM ms ((h % (wsum ms).toNat : Nat) : Int)).getD 0
theorem pickG_some {ms : List Mr} (hm : gok ms = true) (h : Nat) : pickM ms ((h % (wsum ms).toNat : Nat) : Int) = some (pickG ms h) := by
  obtain ⟨_, h1, h2⟩ := gwt_ok hm
  have hl := Nat.mod_lt h (show 0 < (wsum ms).toNat by omega)
  obtain ⟨x, hx⟩ := pickM_some (ms := ms) (x := ((h % (wsum ms).toNat : Nat) : Int)) (by omega) (by omega)
  rw [pickG, hx]; rfl
theorem pick_mem {l : List GV} (h : gall l = true) {x : GV} (hx : x ∈ l) (hs : Nat) : pickE l x.1 hs = 0 ∧ pickH l x.1 hs = pickG x.2 hs := by
  obtain ⟨p1, p2⟩ := gpl_some h hx
  have hg := (gall_iff.1 h).2.1 x hx
  have e1 : l.getD (gplN l x.1) (0, []) = x := by rw [List.getD, p1]; rfl
  have e2 : pickAt l x.1 hs = some (pickG x.2 hs) := by rw [pickAt, e1, (gwt_ok hg).1, pickG_some hg]
  have e3 : pickE l x.1 hs = 0 := by rw [pickE, if_pos h, if_pos p2, e2]; rfl
  exact ⟨e3, by rw [pickH, if_pos e3, e2]; rfl⟩
theorem pick_none {l : List GV} (h : gall l = true) {n : UInt16} (hn : ∀ x ∈ l, x.1 ≠ n) (hs : Nat) : pickE l n hs = 6 := by
  have hb : gplB l n = false := by
    cases e : gplB l n with
    | false => rfl
    | true => obtain ⟨x, hx, _, he⟩ := gpl_in e; exact absurd he (hn x hx)
  rw [pickE, if_pos h, if_neg (by rw [hb]; simp)]

/-! Groups put, taken away, and a hop that is lost. -/
def gputE (l : List GV) (g : GV) : Int := if (gall l && gok g.2) = true then (if gplB l g.1 = true then 0 else if l.length = 64 then 5 else 0) else 1
def gputL (l : List GV) (g : GV) : List GV := if gputE l g = 0 then (if gplB l g.1 = true then l.set (gplN l g.1) g else l.take (gplN l g.1) ++ g :: l.drop (gplN l g.1)) else l
def gtakeE (l : List GV) (n : UInt16) : Int := if gall l = true then (if gplB l n = true then 0 else 6) else 1
def gtakeL (l : List GV) (n : UInt16) : List GV := if gtakeE l n = 0 then l.take (gplN l n) ++ l.drop (gplN l n + 1) else l
def keepM (h : UInt16) (ms : List Mr) : List Mr := ms.filter fun m => decide (m.hop ≠ h)
def lost (h : UInt16) (x : GV) : Option GV := if (keepM h x.2).length = 0 then none else some (x.1, keepM h x.2)
def gloseL (l : List GV) (h : UInt16) : List GV := if gall l = true then l.filterMap (lost h) else l
theorem nums_lt {l : List GV} (h : gall l = true) : l.Pairwise fun a b => a.1 < b.1 := List.pairwise_map.1 (gall_iff.1 h).2.2
theorem gall_of {l : List GV} (h1 : l.length ≤ 64) (h2 : ∀ x ∈ l, gok x.2 = true) (h3 : l.Pairwise fun a b => a.1 < b.1) : gall l = true := gall_iff.2 ⟨h1, h2, List.pairwise_map.2 h3⟩
theorem u16_ne {a b : UInt16} (h : a < b) : a ≠ b := fun e => by subst e; rw [u16_lt] at h; omega
theorem u16_tri {a b : UInt16} (h : ¬ a < b) (hn : a ≠ b) : b < a := by
  rw [u16_lt] at h ⊢
  have : a.toNat ≠ b.toNat := fun e => hn (UInt16.toNat_inj.1 e)
  omega
/-- What stands ahead of a number's place, and what stands behind it. -/
theorem gpl_split {l : List GV} (h : gall l = true) (n : UInt16) : ∃ B, (∀ x ∈ l.take (gplN l n), x.1 < n) ∧ (∀ x ∈ B, n < x.1) ∧ (gplB l n = true → l.drop (gplN l n + 1) = B) ∧ (gplB l n = false → l.drop (gplN l n) = B) ∧ (∀ x, x ∈ l ∧ x.1 ≠ n ↔ x ∈ l.take (gplN l n) ∨ x ∈ B) := by
  obtain ⟨p1, p2⟩ := gpl_parts h n
  have e : l = l.take (gplN l n) ++ l.drop (gplN l n) := (List.take_append_drop _ _).symm
  cases hb : gplB l n with
  | true =>
    obtain ⟨y, _, hy, hyn⟩ := gpl_in hb
    obtain ⟨hi, hy'⟩ := List.getElem?_eq_some_iff.1 hy
    have e2 : l.drop (gplN l n) = y :: l.drop (gplN l n + 1) := by rw [← hy', List.getElem_cons_drop]
    have pw := nums_lt h
    rw [e, e2] at pw
    have pb := (List.pairwise_cons.1 (List.pairwise_append.1 pw).2.1).1
    refine ⟨_, p1, fun x hx => by rw [← hyn]; exact pb x hx, fun _ => rfl, (fun h => by cases h), fun x => ?_⟩
    constructor
    · rintro ⟨hx, hn⟩
      rw [e, e2] at hx
      rcases List.mem_append.1 hx with h1 | h1
      · exact .inl h1
      · rcases List.mem_cons.1 h1 with rfl | h1
        · exact absurd hyn hn
        · exact .inr h1
    · rintro (h1 | h1)
      · exact ⟨List.mem_of_mem_take h1, u16_ne (p1 x h1)⟩
      · exact ⟨List.mem_of_mem_drop h1, fun e' => u16_ne (pb x h1) (hyn.trans e'.symm)⟩
  | false =>
    have hno : ∀ x ∈ l, x.1 ≠ n := fun x hx e' => by
      have := (gpl_some h hx).2
      rw [e', hb] at this; cases this
    refine ⟨_, p1, fun x hx => u16_tri (p2 x hx) (hno x (List.mem_of_mem_drop hx)), (fun h => by cases h), fun _ => rfl, fun x => ?_⟩
    constructor
    · rintro ⟨hx, _⟩
      rw [e] at hx
      exact List.mem_append.1 hx
    · rintro (h1 | h1)
      · exact ⟨List.mem_of_mem_take h1, u16_ne (p1 x h1)⟩
      · exact ⟨List.mem_of_mem_drop h1, hno x (List.mem_of_mem_drop h1)⟩
theorem gput_form {l : List GV} {g : GV} (h : gputE l g = 0) : gall l = true ∧ gok g.2 = true ∧ ∃ B, gputL l g = l.take (gplN l g.1) ++ g :: B ∧ (∀ x ∈ l.take (gplN l g.1), x.1 < g.1) ∧ (∀ x ∈ B, g.1 < x.1) ∧ (∀ x, x ∈ l ∧ x.1 ≠ g.1 ↔ x ∈ l.take (gplN l g.1) ∨ x ∈ B) := by
  have hc : gall l = true ∧ gok g.2 = true := by
    rw [gputE] at h
    split at h
    · rename_i h1; simpa using h1
    · omega
  refine ⟨hc.1, hc.2, ?_⟩
  obtain ⟨B, b1, b2, b3, b4, b5⟩ := gpl_split hc.1 g.1
  refine ⟨B, ?_, b1, b2, b5⟩
  rw [gputL, if_pos h]
  cases hb : gplB l g.1 with
  | true =>
    obtain ⟨y, _, hy, _⟩ := gpl_in hb
    rw [if_pos rfl, List.set_eq_take_append_cons_drop, if_pos (List.getElem?_eq_some_iff.1 hy).1, b3 hb]
  | false => rw [if_neg (by simp), b4 hb]
theorem gput_ok {l : List GV} {g : GV} (h : gall l = true) (hg : gok g.2 = true) (hl : l.length ≤ 63) : gputE l g = 0 ∧ gall (gputL l g) = true ∧ ∀ x, x ∈ gputL l g ↔ x = g ∨ (x ∈ l ∧ x.1 ≠ g.1) := by
  have he : gputE l g = 0 := by
    rw [gputE, if_pos (by rw [h, hg]; rfl)]
    split
    · rfl
    · rw [if_neg (by omega)]
  obtain ⟨_, _, B, b0, b1, b2, b5⟩ := gput_form he
  have hmem : ∀ x, x ∈ gputL l g ↔ x = g ∨ (x ∈ l ∧ x.1 ≠ g.1) := fun x => by
    rw [b0, b5, List.mem_append, List.mem_cons]
    constructor
    · rintro (h1 | h1 | h1)
      · exact .inr (.inl h1)
      · exact .inl h1
      · exact .inr (.inr h1)
    · rintro (h1 | h1 | h1)
      · exact .inr (.inl h1)
      · exact .inl h1
      · exact .inr (.inr h1)
  refine ⟨he, gall_of ?_ (fun x hx => ?_) ?_, hmem⟩
  · rw [gputL, if_pos he]
    split
    · rw [List.length_set]; omega
    · simp only [List.length_append, List.length_cons, List.length_take, List.length_drop]; omega
  · rcases (hmem x).1 hx with rfl | ⟨h1, _⟩
    · exact hg
    · exact (gall_iff.1 h).2.1 x h1
  · rw [b0]
    have pB : B.Pairwise fun a b => a.1 < b.1 := by
      have hs : B.Sublist l := by
        cases hb : gplB l g.1 with
        | true =>
          obtain ⟨B', _, _, c3, _, c5⟩ := gpl_split h g.1
          have : B = l.drop (gplN l g.1 + 1) := by
            have := b0
            obtain ⟨y, _, hy, _⟩ := gpl_in hb
            rw [gputL, if_pos he, if_pos hb, List.set_eq_take_append_cons_drop, if_pos (List.getElem?_eq_some_iff.1 hy).1] at this
            exact (List.cons.inj (List.append_cancel_left this)).2.symm
          rw [this]; exact List.drop_sublist _ _
        | false =>
          have : B = l.drop (gplN l g.1) := by
            have := b0
            rw [gputL, if_pos he, if_neg (by rw [hb]; simp)] at this
            exact (List.cons.inj (List.append_cancel_left this)).2.symm
          rw [this]; exact List.drop_sublist _ _
      exact (nums_lt h).sublist hs
    refine List.pairwise_append.2 ⟨(nums_lt h).sublist (List.take_sublist _ _), List.pairwise_cons.2 ⟨b2, pB⟩, fun a ha b hb => ?_⟩
    rcases List.mem_cons.1 hb with rfl | hb
    · exact b1 a ha
    · have h1 := b1 a ha; have h2 := b2 b hb; rw [u16_lt] at *; omega
theorem gtake_ok {l : List GV} (h : gall l = true) {g : GV} (hg : g ∈ l) : gtakeE l g.1 = 0 ∧ (gtakeL l g.1).length = l.length - 1 ∧ gall (gtakeL l g.1) = true ∧ ∀ x, x ∈ gtakeL l g.1 ↔ x ∈ l ∧ x.1 ≠ g.1 := by
  obtain ⟨p1, p2⟩ := gpl_some h hg
  have he : gtakeE l g.1 = 0 := by rw [gtakeE, if_pos h, if_pos p2]
  have hi := (List.getElem?_eq_some_iff.1 p1).1
  obtain ⟨B, b1, b2, b3, b4, b5⟩ := gpl_split h g.1
  have el : gtakeL l g.1 = l.take (gplN l g.1) ++ l.drop (gplN l g.1 + 1) := if_pos he
  have hmem : ∀ x, x ∈ gtakeL l g.1 ↔ x ∈ l ∧ x.1 ≠ g.1 := fun x => by rw [el, b3 p2, b5, List.mem_append]
  have hlen : (gtakeL l g.1).length = l.length - 1 := by rw [el]; simp only [List.length_append, List.length_take, List.length_drop]; omega
  refine ⟨he, hlen, gall_of (by have := (gall_iff.1 h).1; omega) (fun x hx => (gall_iff.1 h).2.1 x ((hmem x).1 hx).1) ?_, hmem⟩
  have hs : (gtakeL l g.1).Sublist l := by
    rw [el]
    conv => rhs; rw [← List.take_append_drop (gplN l g.1) l]
    exact (List.Sublist.refl _).append (List.drop_sublist_drop_left _ (Nat.le_succ _))
  exact (nums_lt h).sublist hs
theorem gkeep_ok {ms : List Mr} (h : gok ms = true) (hop : UInt16) (hn : ¬ (keepM hop ms).length = 0) : gok (keepM hop ms) = true := by
  obtain ⟨h1, h2, h3, h4⟩ := gok_iff.1 h
  have hl : (keepM hop ms).length ≤ ms.length := List.length_filter_le _ _
  exact gok_iff.2 ⟨by omega, by omega, fun m hm => h3 m (List.mem_filter.1 hm).1, h4.sublist ((List.filter_sublist (p := fun m => decide (m.hop ≠ hop)) (l := ms)).map _)⟩
theorem glose_ok {l : List GV} (h : gall l = true) (hop : UInt16) : gall (gloseL l hop) = true ∧ (gloseL l hop).length ≤ l.length ∧ ∀ x ∈ gloseL l hop, ∀ m ∈ x.2, m.hop ≠ hop := by
  have el : gloseL l hop = l.filterMap (lost hop) := if_pos h
  have hlen : (gloseL l hop).length ≤ l.length := by rw [el]; exact List.length_filterMap_le _ _
  have hmem : ∀ x ∈ gloseL l hop, ∃ y ∈ l, ¬ (keepM hop y.2).length = 0 ∧ x = (y.1, keepM hop y.2) := fun x hx => by
    rw [el] at hx
    obtain ⟨y, hy, he⟩ := List.mem_filterMap.1 hx
    rw [lost] at he
    split at he
    · cases he
    · rename_i hn; exact ⟨y, hy, hn, (Option.some.inj he).symm⟩
  refine ⟨gall_of (by have := (gall_iff.1 h).1; omega) (fun x hx => ?_) ?_, hlen, fun x hx m hm => ?_⟩
  · obtain ⟨y, hy, hn, rfl⟩ := hmem x hx
    exact gkeep_ok ((gall_iff.1 h).2.1 y hy) hop hn
  · rw [el]
    refine List.pairwise_filterMap.2 ((nums_lt h).imp fun {a b} hab x hx y hy => ?_)
    rw [lost] at hx hy
    split at hx
    · cases hx
    · split at hy
      · cases hy
      · have e1 := Option.some.inj hx
        have e2 := Option.some.inj hy
        rw [← e1, ← e2]; exact hab
  · obtain ⟨y, hy, hn, rfl⟩ := hmem x hx
    have := (List.mem_filter.1 hm).2
    simpa using this
theorem pick_lost {l : List GV} (h : gall l = true) {hop : UInt16} (hh : ∀ x ∈ l, ∀ m ∈ x.2, m.hop ≠ hop) {x : GV} (hx : x ∈ l) (hs : Nat) : pickH l x.1 hs ≠ hop := by
  rw [(pick_mem h hx hs).2]
  have h1 := pickG_some ((gall_iff.1 h).2.1 x hx) hs
  obtain ⟨m, hm, e⟩ := List.mem_map.1 (pickM_mem h1)
  rw [← e]; exact hh x hx m hm

/-! How many numbers a member gets. -/
def cntN (n : Nat) (p : Nat → Bool) : Nat := (List.range n).countP p
theorem cntN_zero (p : Nat → Bool) : cntN 0 p = 0 := rfl
theorem cntN_succ (n : Nat) (p : Nat → Bool) : cntN (n + 1) p = cntN n p + if p n = true then 1 else 0 := by
  rw [cntN, List.range_succ, List.countP_append, List.countP_singleton]; rfl
theorem cntN_congr {n : Nat} {p q : Nat → Bool} (h : ∀ i, i < n → p i = q i) : cntN n p = cntN n q := by
  induction n with
  | zero => rfl
  | succ n ih => rw [cntN_succ, cntN_succ, ih fun i hi => h i (by omega), h n (by omega)]
theorem cntN_add (a b : Nat) (p : Nat → Bool) : cntN (a + b) p = cntN a p + cntN b fun i => p (a + i) := by
  induction b with
  | zero => simp [cntN]
  | succ b ih => rw [← Nat.add_assoc, cntN_succ, ih, cntN_succ, Nat.add_assoc]
theorem cntN_le {a b : Nat} (h : a ≤ b) (p : Nat → Bool) : cntN a p ≤ cntN b p := by
  obtain ⟨c, rfl⟩ : ∃ c, b = a + c := ⟨b - a, by omega⟩
  rw [cntN_add]; omega
theorem cntN_all {n : Nat} {p : Nat → Bool} (h : ∀ i, i < n → p i = true) : cntN n p = n := by
  induction n with
  | zero => rfl
  | succ n ih => rw [cntN_succ, ih fun i hi => h i (by omega), if_pos (h n (by omega))]
theorem cntN_no {n : Nat} {p : Nat → Bool} (h : ∀ i, i < n → p i = false) : cntN n p = 0 := by
  induction n with
  | zero => rfl
  | succ n ih => rw [cntN_succ, ih fun i hi => h i (by omega), if_neg (by rw [h n (by omega)]; simp)]
theorem cntN_shift {n : Nat} {q : Nat → Bool} (h : q n = q 0) : cntN n (fun i => q (i + 1)) = cntN n q := by
  have h1 := cntN_add 1 n q
  have h2 := cntN_succ n q
  have h3 : cntN 1 q = if q 0 = true then 1 else 0 := by rw [show (1 : Nat) = 0 + 1 from rfl, cntN_succ, cntN_zero]; simp
  rw [Nat.add_comm 1 n, h2, h3, h] at h1
  have : cntN n (fun i => q (1 + i)) = cntN n q := by omega
  rw [← this]
  exact cntN_congr fun i _ => by rw [Nat.add_comm]
theorem cntN_rot (n : Nat) (p : Nat → Bool) : ∀ a, cntN n (fun i => p ((a + i) % n)) = cntN n p
  | 0 => cntN_congr fun i hi => by rw [Nat.zero_add, Nat.mod_eq_of_lt hi]
  | a + 1 => by
    have := cntN_shift (n := n) (q := fun i => p ((a + i) % n)) (by show p ((a + n) % n) = p ((a + 0) % n); rw [Nat.add_mod_right, Nat.add_zero])
    rw [cntN_rot n p a] at this
    rw [← this]
    exact cntN_congr fun i _ => by rw [show a + 1 + i = a + (i + 1) by omega]
theorem cntN_mod (t : Nat) (p : Nat → Bool) (r : Nat) : ∀ k, cntN (k * t + r) (fun i => p (i % t)) = k * cntN t p + cntN r (fun i => p (i % t))
  | 0 => by simp
  | k + 1 => by
    have e : (k + 1) * t + r = t + (k * t + r) := by rw [Nat.add_mul]; omega
    rw [e, cntN_add, cntN_congr (n := t) (q := p) fun i hi => by rw [Nat.mod_eq_of_lt hi]]
    rw [cntN_congr (n := k * t + r) (q := fun i => p (i % t)) fun i _ => by rw [Nat.add_mod_left], cntN_mod t p r k, Nat.add_mul]
    omega
theorem share : ∀ {ms : List Mr}, (∀ m ∈ ms, 1 ≤ m.w ∧ m.w ≤ 100) → (ms.map Mr.hop).Pairwise (· < ·) → ∀ m ∈ ms, cntN (wsum ms).toNat (fun r => pickM ms (r : Int) == some m.hop) = m.w.toNat
  | [], _, _, m, hm => by cases hm
  | a :: r, h, hp, m, hm => by
    have ha := h a (by simp)
    have hr : ∀ x ∈ r, 1 ≤ x.w ∧ x.w ≤ 100 := fun x hx => h x (List.mem_cons_of_mem _ hx)
    have hb := wsum_bd hr
    have hp' := List.pairwise_cons.1 (by rw [List.map_cons] at hp; exact hp)
    have e : (wsum (a :: r)).toNat = a.w.toNat + (wsum r).toNat := by rw [wsum]; omega
    have e1 : cntN a.w.toNat (fun x => pickM (a :: r) (x : Int) == some m.hop) = if a.hop = m.hop then a.w.toNat else 0 := by
      by_cases hh : a.hop = m.hop
      · rw [if_pos hh]
        exact cntN_all fun i hi => by rw [pickM, if_pos (by omega), hh]; simp
      · rw [if_neg hh]
        exact cntN_no fun i hi => by rw [pickM, if_pos (by omega)]; simp [hh]
    have e2 : cntN (wsum r).toNat (fun x => pickM (a :: r) ((a.w.toNat + x : Nat) : Int) == some m.hop) = cntN (wsum r).toNat (fun x => pickM r (x : Int) == some m.hop) :=
      cntN_congr fun i _ => by rw [pickM, if_neg (by omega), show ((a.w.toNat + i : Nat) : Int) - a.w = (i : Int) by omega]
    rw [e, cntN_add, e1, e2]
    rcases List.mem_cons.1 hm with rfl | hm
    · rw [if_pos rfl]
      have : cntN (wsum r).toNat (fun x => pickM r (x : Int) == some m.hop) = 0 := cntN_no fun i _ => by
        cases hx : pickM r (i : Int) with
        | none => rfl
        | some y =>
          have := hp'.1 y (pickM_mem hx)
          simpa using (u16_ne this).symm
      omega
    · have hne := u16_ne (hp'.1 m.hop (List.mem_map_of_mem hm))
      rw [if_neg hne, share hr hp'.2 m hm]; omega
end Go.Kb

/- A bag of entries beside a row; an array of numbers. -/
set_option linter.unusedSimpArgs false
set_option linter.unusedVariables false
namespace Go.Eng
open Go.RowKit Go.Kb
section
variable {w0 : World} {L : List Ent} {τ : Type} [Deep τ] {xs : List τ} {es : List Ent}
/-- What the elements reach lies in the bag. -/
class InBag (xs : List τ) (es : outParam (List Ent)) : Prop where
  h : ∀ x ∈ xs, Deep.ent x ∈ es
instance (priority := low) AllG.bag {i : Nat} [b : InBag xs es] [q : At L (Ent.all es) i] : AllG w0 L xs := ⟨fun _ hw x hx => Deep.good_of _ x (Ent.all_sat (hw.get q.h) _ (b.h x hx))⟩
instance (priority := low) HdD.bagged {a : Sl τ} {enc : τ → Array Value} {c i : Nat} [f : FlatT τ enc c] [q : Owns L a.sv enc c a.xs i] [g : AllG w0 L a.xs] : HdD w0 L a := ⟨fun w hw => by
  have hl := q.holds w hw
  have e1 : Deep.cells (τ := τ) = enc := funext (FlatT.h (c := c))
  have e2 : Deep.c τ = c := FlatT.hc (enc := enc)
  refine ⟨?_, g.h w hw⟩
  rw [e1, e2]; exact hl⟩
theorem Mem.bag0 {w : World} (h : Mem w0 L w) : Mem w0 (Ent.all [] :: L) w := Mem.emp_iff.2 h
theorem Mem.bagPush {w : World} {e : Ent} (h : Mem w0 (e :: Ent.all es :: L) w) : Mem w0 (Ent.all (e :: es) :: L) w := Mem.two_iff.2 h
theorem Mem.shutP {w : World} {s : Sv} {enc : τ → Array Value} {c : Nat} [f : FlatT τ enc c] [Plain τ] (h : Mem w0 (own enc c s xs :: L) w) : Mem w0 (Deep.ent (⟨s, xs⟩ : Sl τ) :: L) w := Tr.shut_p.mem h
theorem InBag.nil : InBag ([] : List τ) [] := ⟨fun _ h => (List.not_mem_nil h).elim⟩
end
theorem over_all {cs vs : Array Value} (h : cs.size = vs.size) : over cs 0 vs = vs := by
  unfold over; apply Array.ext'; simp [← h]
/-! An array of numbers. -/
def acells (n : Nat) (f : Nat → Int) : Array Value := ((List.range n).map fun i => Value.int .i64 (f i)).toArray
theorem acells_size (n : Nat) (f : Nat → Int) : (acells n f).size = n := by simp [acells]
theorem acells_get {n i : Nat} (f : Nat → Int) (h : i < n) : (acells n f)[i]? = some (.int .i64 (f i)) := by simp [acells, h]
def bump (f : Nat → Int) (i : Nat) : Nat → Int := fun j => if j = i then f j + 1 else f j
theorem acells_set {n i : Nat} {f : Nat → Int} (h : i < n) : (acells n f).setIfInBounds i (.int .i64 (f i + 1)) = acells n (bump f i) := by
  refine Array.ext_getElem? fun j => ?_
  rw [Array.getElem?_setIfInBounds, acells_size]
  by_cases hj : i = j
  · subst hj; rw [if_pos rfl, if_pos h, acells_get _ h, bump, if_pos rfl]
  · rw [if_neg hj]
    rcases Nat.lt_or_ge j n with h2 | h2
    · rw [acells_get _ h2, acells_get _ h2, bump, if_neg (fun e => hj e.symm)]
    · rw [Array.getElem?_eq_none (by rw [acells_size]; exact h2), Array.getElem?_eq_none (by rw [acells_size]; exact h2)]
def is0 : Value → Bool
  | .int .i64 n => decide (n = 0)
  | _ => false
def zeros : List Value → Nat → Bool
  | [], 0 => true
  | v :: l, n + 1 => is0 v && zeros l n
  | _, _ => false
theorem zeros_eq : ∀ {l : List Value} {n : Nat}, zeros l n = true → l = List.replicate n (.int .i64 0)
  | [], 0, _ => rfl
  | v :: l, n + 1, h => by
    rw [zeros, Bool.and_eq_true] at h
    rw [List.replicate_succ, zeros_eq h.2]
    congr 1
    have h1 := h.1
    unfold is0 at h1
    split at h1
    · rw [of_decide_eq_true h1]
    · cases h1
  | [], n + 1, h => by cases h
  | v :: l, 0, h => by cases h
theorem acells_zero (n : Nat) : acells n (fun _ => 0) = (List.replicate n (Value.int .i64 0)).toArray := by
  unfold acells
  congr 1
  rw [List.map_const']; simp
def zeroChk (v : Option (Option Value)) (n : Nat) : Bool := match v with
  | some (some (.agg cs)) => zeros cs.toList n
  | _ => false
theorem zeroChk_eq {v : Option (Option Value)} {n : Nat} (h : zeroChk v n = true) : v = some (some (.agg (acells n fun _ => 0))) := by
  unfold zeroChk at h
  split at h
  · rename_i cs
    rw [acells_zero, ← zeros_eq h]
  · cases h
/-- Numbers picked, as an array counts them. -/
def got (n : Nat) (f : Nat → Option UInt16) : Nat → Int := fun h => (cntN n (fun i => (f i).map UInt16.toNat == some h) : Nat)
theorem got_zero (f : Nat → Option UInt16) : got 0 f = fun _ => 0 := rfl
theorem got_succ {n : Nat} {f : Nat → Option UInt16} {h : UInt16} (e : f n = some h) : got (n + 1) f = bump (got n f) h.toNat := by
  funext j
  unfold got bump
  rw [cntN_succ, e]
  by_cases hj : j = h.toNat
  · subst hj; rw [if_pos (by simp), if_pos rfl]; rfl
  · rw [if_neg (by simpa using fun e => hj e.symm), if_neg hj]; rfl
theorem got_hop (n : Nat) (f : Nat → Option UInt16) (h : UInt16) : got n f h.toNat = (cntN n (fun i => f i == some h) : Nat) := by
  unfold got
  congr 1
  refine cntN_congr fun i _ => ?_
  cases hf : f i with
  | none => rfl
  | some x =>
    simp only [Option.map_some]
    by_cases hx : x = h
    · subst hx; simp
    · have : ¬ x.toNat = h.toNat := fun e => hx (UInt16.toNat_inj.1 e)
      have e1 : (x.toNat == h.toNat) = false := beq_eq_false_iff_ne.2 this
      have e2 : (x == h) = false := beq_eq_false_iff_ne.2 hx
      simp [e1, e2]
def big : Nat := 65536
theorem u16_big (x : UInt16) : x.toNat < big := x.toNat_lt
theorem got_bd (n : Nat) (f : Nat → Option UInt16) (h : Nat) : 0 ≤ got n f h ∧ got n f h ≤ n := by
  unfold got
  have : ∀ p, cntN n p ≤ n := fun p => by
    rw [cntN]; exact Nat.le_trans List.countP_le_length (by simp)
  have := this (fun i => (f i).map UInt16.toNat == some h)
  omega
instance {w0 : World} {L : List Ent} {n : UInt16} {a : Sl Mr} [q : HdD w0 L a] : HdD w0 L (Gp.mk n a) := ⟨q.h⟩
theorem gvs_one (g : Gp) : gvs [g] = [gval g] := rfl
theorem gall_one {g : Gp} (h : gok g.ms.xs = true) : gall (gvs [g]) = true := gall_iff.2 ⟨by simp [gvs], fun x hx => by rw [gvs_one] at hx; rw [show x = gval g by simpa using hx]; exact h, by simp [gvs]⟩
theorem pick_one {g : Gp} (h : gok g.ms.xs = true) (hs : Nat) : pickE (gvs [g]) g.num hs = 0 ∧ pickH (gvs [g]) g.num hs = pickG g.ms.xs hs := pick_mem (gall_one h) (x := gval g) (by simp [gvs]) hs
theorem gall_few {l : List Gp} (h : gall (gvs l) = true) : l.length ≤ 64 ∧ ∀ x ∈ l, x.ms.xs.length ≤ 1000000 := by
  obtain ⟨h1, h2, _⟩ := gall_iff.1 h
  rw [gvs_length] at h1
  exact ⟨h1, fun x hx => by have := (gok_iff.1 (h2 (gval x) (List.mem_map_of_mem hx))).2.1; have e : (gval x).2 = x.ms.xs := rfl; rw [e] at this; omega⟩
/-- Members that weigh alike. -/
def alike (w : Nat) (hs : List UInt16) : List Mr := hs.map fun x => ⟨x, w⟩
theorem alike_length (w : Nat) (hs : List UInt16) : (alike w hs).length = hs.length := by simp [alike]
theorem alike_sum (w : Nat) : ∀ hs : List UInt16, wsum (alike w hs) = ((w * hs.length : Nat) : Int)
  | [] => by simp [alike, wsum]
  | x :: r => by
    have := alike_sum w r
    rw [alike, List.map_cons, wsum, show r.map (fun x => (⟨x, w⟩ : Mr)) = alike w r from rfl, this, List.length_cons, Nat.mul_add]
    simp only [Nat.mul_one]; omega
theorem alike_ok {w : Nat} {hs : List UInt16} (h1 : 1 ≤ hs.length) (h2 : hs.length ≤ 16) (h3 : 1 ≤ w) (h4 : w ≤ 100) (h : rise hs = true) : gok (alike w hs) = true := by
  refine gok_iff.2 ⟨by rw [alike_length]; exact h1, by rw [alike_length]; exact h2, fun m hm => ?_, ?_⟩
  · obtain ⟨x, _, rfl⟩ := List.mem_map.1 hm
    simp only; omega
  · rw [show (alike w hs).map Mr.hop = hs by simp [alike, Function.comp_def]]
    exact rise_iff.1 h
theorem alike_snoc {w : Nat} {hs : List UInt16} {i : Nat} {x : UInt16} (h : hs[i]? = some x) : alike w (hs.take (i + 1)) = alike w (hs.take i) ++ [⟨x, w⟩] := by
  rw [alike, List.take_add_one, h]; simp [alike]
/-- Each of members that weigh alike gets its share, within one. -/
theorem even {w : Nat} {hs : List UInt16} (h1 : 1 ≤ hs.length) (h2 : hs.length ≤ 16) (h3 : 1 ≤ w) (h4 : w ≤ 100) (h : rise hs = true) {x : UInt16} (hx : x ∈ hs) (n : Nat) :
    let c := cntN n (fun i => pickM (alike w hs) ((i % (w * hs.length) : Nat) : Int) == some x)
    n / (w * hs.length) * w ≤ c ∧ c ≤ n / (w * hs.length) * w + w ∧ (hs.length = 1 → c = n) := by
  intro c
  have hok := gok_iff.1 (alike_ok h1 h2 h3 h4 h)
  have hsum := alike_sum w hs
  have hT : (wsum (alike w hs)).toNat = w * hs.length := by omega
  have hpos : 1 * 1 ≤ w * hs.length := Nat.mul_le_mul h3 h1
  have hm : (⟨x, w⟩ : Mr) ∈ alike w hs := List.mem_map.2 ⟨x, hx, rfl⟩
  have hs1 := share hok.2.2.1 hok.2.2.2 _ hm
  rw [hT] at hs1
  have hs1 : cntN (w * hs.length) (fun r => pickM (alike w hs) (r : Int) == some x) = w := by simpa using hs1
  have e := cntN_mod (w * hs.length) (fun r => pickM (alike w hs) (r : Int) == some x) (n % (w * hs.length)) (n / (w * hs.length))
  rw [Nat.mul_comm (n / (w * hs.length)) (w * hs.length), Nat.div_add_mod, hs1] at e
  have hlt := Nat.mod_lt n (show 0 < w * hs.length by omega)
  have e2 : cntN (n % (w * hs.length)) (fun i => pickM (alike w hs) ((i % (w * hs.length) : Nat) : Int) == some x) ≤ w := by
    rw [cntN_congr (q := fun r => pickM (alike w hs) (r : Int) == some x) fun i hi => by rw [Nat.mod_eq_of_lt (by omega)]]
    exact Nat.le_trans (cntN_le (by omega) _) (Nat.le_of_eq hs1)
  refine ⟨by show _ ≤ c; omega, by show c ≤ _; omega, fun hl => ?_⟩
  obtain ⟨y, rfl⟩ : ∃ y, hs = [y] := List.length_eq_one_iff.1 hl
  obtain rfl : x = y := by simpa using hx
  refine cntN_all fun i _ => ?_
  have := Nat.mod_lt i (show 0 < w * [x].length by simp; omega)
  rw [alike, List.map_cons, pickM, if_pos (by simp at this ⊢; omega)]
  simp
end Go.Eng

