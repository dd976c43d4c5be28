/- A region that draws its order: its head reads, calls quietly and makes new memory, in whatever order; its tail goes in order. -/
import Derived.StillTail
import Derived.Deep.Quiet
import Derived.Test.YtldkgicmfbofiaaDoorMem
import Derived.Test.YtldkgicmfbofiaaDoorFen
set_option linter.unusedSimpArgs false
set_option linter.unusedVariables false
namespace Go.Eng
section
variable {P : Program} {l : List Oper} {C : World → Prop} {Q : Exit → Act → World → Prop} {n : Nat} {fs : List Nat}

/-- The frame behind the first k operations but those of fs, op j having yielded v j. -/
def fr (l : List Oper) (fs : List Nat) (v : Nat → Value) (a0 : Act) : Nat → Act
  | 0 => a0
  | k + 1 => if fs.contains k = true then fr l fs v a0 k else match l[k]? with
    | some o => (fr l fs v a0 k).put o.dst (v k)
    | none => fr l fs v a0 k

def dstAt (l : List Oper) (j : Nat) : Option Tmp := (l[j]?).bind (·.dst)

theorem put_get (a : Act) (d : Option Tmp) (v : Value) (t : Nat) (h : d ≠ some t) : (a.put d v).tmps[t]? = a.tmps[t]? := by
  cases d with
  | none => rfl
  | some d =>
    have : d ≠ t := fun e => h (by rw [e])
    simp [Act.put, this]
theorem put_size (a : Act) (d : Option Tmp) (v : Value) : (a.put d v).tmps.size = a.tmps.size := by cases d <;> simp [Act.put]
theorem put_def (a : Act) (d : Option Tmp) (v : Value) : (a.put d v).defers = a.defers := by cases d <;> rfl
theorem put_same (a b : Act) (d : Nat) (v : Value) (h : a.tmps.size = b.tmps.size) : (a.put (some d) v).tmps[d]? = (b.put (some d) v).tmps[d]? := by
  simp [Act.put, Array.getElem?_setIfInBounds, h]

theorem fr_some {v : Nat → Value} {a0 : Act} {k : Nat} {o : Oper} (hf : fs.contains k = false) (h : l[k]? = some o) : fr l fs v a0 (k + 1) = (fr l fs v a0 k).put o.dst (v k) := by
  show (if fs.contains k = true then _ else match l[k]? with | some o => (fr l fs v a0 k).put o.dst (v k) | none => fr l fs v a0 k) = _
  rw [hf, h]; rfl
theorem fr_skip {v : Nat → Value} {a0 : Act} {k : Nat} (hf : fs.contains k = true) : fr l fs v a0 (k + 1) = fr l fs v a0 k := by
  show (if fs.contains k = true then _ else match l[k]? with | some o => (fr l fs v a0 k).put o.dst (v k) | none => fr l fs v a0 k) = _
  rw [hf]; rfl
theorem fr_none {v : Nat → Value} {a0 : Act} {k : Nat} (h : l[k]? = none) : fr l fs v a0 (k + 1) = fr l fs v a0 k := by
  show (if fs.contains k = true then _ else match l[k]? with | some o => (fr l fs v a0 k).put o.dst (v k) | none => fr l fs v a0 k) = _
  rw [h]; split <;> rfl

theorem fr_size (v : Nat → Value) (a0 : Act) : ∀ k, (fr l fs v a0 k).tmps.size = a0.tmps.size
  | 0 => rfl
  | k + 1 => by
    cases hf : fs.contains k with
    | true => rw [fr_skip hf]; exact fr_size v a0 k
    | false =>
      cases ho : l[k]? with
      | none => rw [fr_none ho]; exact fr_size v a0 k
      | some o => rw [fr_some hf ho, put_size]; exact fr_size v a0 k
theorem fr_def (v : Nat → Value) (a0 : Act) : ∀ k, (fr l fs v a0 k).defers = a0.defers
  | 0 => rfl
  | k + 1 => by
    cases hf : fs.contains k with
    | true => rw [fr_skip hf]; exact fr_def v a0 k
    | false =>
      cases ho : l[k]? with
      | none => rw [fr_none ho]; exact fr_def v a0 k
      | some o => rw [fr_some hf ho, put_def]; exact fr_def v a0 k
/-- A slot that none of the operations k, .., m - 1 writes. -/
theorem fr_keep (v : Nat → Value) (a0 : Act) (t k : Nat) : ∀ m, k ≤ m → (∀ j, k ≤ j → j < m → fs.contains j = false → dstAt l j ≠ some t) → (fr l fs v a0 m).tmps[t]? = (fr l fs v a0 k).tmps[t]?
  | 0, h, _ => by obtain rfl : k = 0 := by omega
                  rfl
  | m + 1, h, hn => by
    by_cases e : k = m + 1
    · subst e; rfl
    · have ih := fr_keep v a0 t k m (by omega) fun j h1 h2 => hn j h1 (by omega)
      rw [← ih]
      cases hf : fs.contains m with
      | true => rw [fr_skip hf]
      | false =>
        cases ho : l[m]? with
        | none => rw [fr_none ho]
        | some o =>
          rw [fr_some hf ho]
          exact put_get _ _ _ _ (by simpa [dstAt, ho] using hn m (by omega) (by omega) hf)

/-- What is asked of a head by looking: each slot that is read was written ahead, by one operation that is waited for; nothing but what makes memory reads what was made. -/
def headB (l : List Oper) (fs : List Nat) (n : Nat) : Bool :=
  (List.range n).all fun k => match l[k]? with
    | none => false
    | some o =>
      (match o.op with | .select .. => false | _ => true) &&
      (o.after.all fun e => !Region.binds .any e || decide (e.on < k)) &&
      (List.range n).all fun j => match dstAt l j with
        | none => true
        | some d => (!(o.looksAt l.toArray).contains d || (decide (j < k) && (!fs.contains j || fs.contains k) && o.after.any fun e => Region.binds .any e && e.on == j)) && (j == k || o.dst != some d)

structure HeadOk (l : List Oper) (fs : List Nat) (n k : Nat) (o : Oper) : Prop where
  nosel : ∀ cs b, o.op ≠ .select cs b
  back : ∀ e ∈ o.after, Region.binds .any e = true → e.on < k
  reads : ∀ j d, j < n → dstAt l j = some d → d ∈ o.looksAt l.toArray → j < k ∧ (fs.contains j = true → fs.contains k = true) ∧ ∃ e ∈ o.after, Region.binds .any e = true ∧ e.on = j
  one : ∀ j d, j < n → dstAt l j = some d → j ≠ k → o.dst ≠ some d

theorem headB_spec (h : headB l fs n = true) (k : Nat) (hk : k < n) : ∃ o, l[k]? = some o ∧ HeadOk l fs n k o := by
  have := List.all_eq_true.1 h k (List.mem_range.2 hk)
  cases ho : l[k]? with
  | none => simp [ho] at this
  | some o =>
    rw [ho] at this
    simp only [Bool.and_eq_true] at this
    obtain ⟨⟨h1, h2⟩, h3⟩ := this
    refine ⟨o, rfl, ⟨fun cs b e => by rw [e] at h1; simp at h1, fun e he hb => ?_, fun j d hj hd hl => ?_, fun j d hj hd hne => ?_⟩⟩
    · have := (Array.all_eq_true_iff_forall_mem.1 h2) e he
      simpa [hb] using this
    · have := List.all_eq_true.1 h3 j (List.mem_range.2 hj)
      rw [hd] at this
      simp only [Bool.and_eq_true, Bool.or_eq_true, Bool.not_eq_true', decide_eq_true_eq] at this
      rcases this.1 with h4 | h4
      · exact absurd hl (by simpa using h4)
      · obtain ⟨⟨h5, h6⟩, h7⟩ := h4
        obtain ⟨e, he, hb⟩ := Array.any_eq_true'.1 h7
        simp only [Bool.and_eq_true, beq_iff_eq] at hb
        exact ⟨h5, fun hj' => h6.elim (fun h => by rw [h] at hj'; cases hj') id, e, he, hb.1, hb.2⟩
    · have := List.all_eq_true.1 h3 j (List.mem_range.2 hj)
      rw [hd] at this
      simp only [Bool.and_eq_true, Bool.or_eq_true, beq_iff_eq] at this
      rcases this.2 with h4 | h4
      · exact absurd h4 hne
      · simpa using h4

/-- One value in every world of C; a call leaves what was there. -/
def quietR (P : Program) (o : Oper) (a : Act) (C : World → Prop) (v : Value) : Prop := ∀ w, C w → o.quietAt P a (Mem w []) w v

/-- Operation k, in the frame of the text's own order. -/
def QuietHead (P : Program) (l : List Oper) (fs : List Nat) (C : World → Prop) (v : Nat → Value) (a0 : Act) (k : Nat) : Prop :=
  ∀ o, l[k]? = some o → (Region.wanted o (yielded l.toArray (fr l fs v a0 k).tmps) = true → quietR P o (fr l fs v a0 k) C (v k)) ∧
    (Region.wanted o (yielded l.toArray (fr l fs v a0 k).tmps) = false → v k = undef)

/-- The head in the text's order, what makes memory passed over. -/
def wpHead (P : Program) (ops : Array Oper) (fs : List Nat) (C : World → Prop) (F : Act → Prop) : Nat → List Oper → Act → Prop
  | _, [], a => F a
  | k, o :: rest, a => if fs.contains k = true then wpHead P ops fs C F (k + 1) rest a
    else if Region.wanted o (yielded ops a.tmps) = true then ∃ v, quietR P o a C v ∧ wpHead P ops fs C F (k + 1) rest (a.put o.dst v) else wpHead P ops fs C F (k + 1) rest (a.put o.dst undef)

theorem heads_of_quiet {F : Act → Prop} : ∀ (m k : Nat) (a0 : Act) (v0 : Nat → Value), k + m ≤ l.length → wpHead P l.toArray fs C F k ((l.drop k).take m) (fr l fs v0 a0 k) →
    ∃ v, (∀ j, j < k → v j = v0 j) ∧ (∀ j, k ≤ j → j < k + m → fs.contains j = false → QuietHead P l fs C v a0 j) ∧ F (fr l fs v a0 (k + m))
  | 0, k, a0, v0, _, h => ⟨v0, fun _ _ => rfl, fun j h1 h2 => by omega, by simpa [wpHead] using h⟩
  | m + 1, k, a0, v0, hle, h => by
    have hk : k < l.length := by omega
    have ed : l.drop k = l[k] :: l.drop (k + 1) := List.drop_eq_getElem_cons hk
    rw [ed, List.take_succ_cons] at h
    have hgo : l[k]? = some l[k] := List.getElem?_eq_getElem hk
    have agree : ∀ v v' : Nat → Value, ∀ j, (∀ i, i < j → v i = v' i) → fr l fs v a0 j = fr l fs v' a0 j := by
      intro v v' j
      induction j with
      | zero => intro _; rfl
      | succ j ih =>
        intro hh
        have e := ih fun i hi => hh i (by omega)
        cases hf : fs.contains j with
        | true => rw [fr_skip hf, fr_skip hf, e]
        | false =>
          cases ho : l[j]? with
          | none => rw [fr_none ho, fr_none ho, e]
          | some o => rw [fr_some hf ho, fr_some hf ho, e, hh j (by omega)]
    unfold wpHead at h
    cases hfk : fs.contains k with
    | true =>
      rw [if_pos hfk] at h
      obtain ⟨v, g1, g2, g3⟩ := heads_of_quiet m (k + 1) a0 v0 (by omega) (by rw [fr_skip hfk]; exact h)
      refine ⟨v, fun j hj => g1 j (by omega), fun j h3 h4 h5 => ?_, by rw [show k + (m + 1) = k + 1 + m by omega]; exact g3⟩
      by_cases hj : j = k
      · subst hj; rw [hfk] at h5; cases h5
      · exact g2 j (by omega) (by omega) h5
    | false =>
      rw [if_neg (by rw [hfk]; exact Bool.false_ne_true)] at h
      have step : ∀ u : Value, wpHead P l.toArray fs C F (k + 1) ((l.drop (k + 1)).take m) ((fr l fs v0 a0 k).put l[k].dst u) →
          ((Region.wanted l[k] (yielded l.toArray (fr l fs v0 a0 k).tmps) = true → quietR P l[k] (fr l fs v0 a0 k) C u) ∧ (Region.wanted l[k] (yielded l.toArray (fr l fs v0 a0 k).tmps) = false → u = undef)) →
          ∃ v, (∀ j, j < k → v j = v0 j) ∧ (∀ j, k ≤ j → j < k + (m + 1) → fs.contains j = false → QuietHead P l fs C v a0 j) ∧ F (fr l fs v a0 (k + (m + 1))) := by
        intro u h2 hu
        let v1 : Nat → Value := fun j => if j = k then u else v0 j
        have e1 : fr l fs v1 a0 k = fr l fs v0 a0 k := agree _ _ k fun i hi => by simp [v1, show i ≠ k by omega]
        have e2 : fr l fs v1 a0 (k + 1) = (fr l fs v0 a0 k).put l[k].dst u := by
          rw [fr_some hfk hgo, e1]; simp [v1]
        obtain ⟨v, g1, g2, g3⟩ := heads_of_quiet m (k + 1) a0 v1 (by omega) (by rw [e2]; exact h2)
        have e3 : fr l fs v a0 k = fr l fs v0 a0 k := agree _ _ k fun i hi => by rw [g1 i (by omega)]; simp [v1, show i ≠ k by omega]
        have e4 : v k = u := by rw [g1 k (by omega)]; simp [v1]
        refine ⟨v, fun j hj => by rw [g1 j (by omega)]; simp [v1, show j ≠ k by omega], fun j h3 h4 h5 => ?_, by rw [show k + (m + 1) = k + 1 + m by omega]; exact g3⟩
        by_cases hj : j = k
        · subst hj
          intro o ho
          rw [hgo] at ho; cases ho
          rw [e3, e4]
          exact hu
        · exact g2 j (by omega) (by omega) h5
      split at h
      · rename_i hw
        obtain ⟨u, h1, h2⟩ := h
        exact step u h2 ⟨fun _ => h1, fun hf => by rw [hw] at hf; cases hf⟩
      · rename_i hw
        exact step undef h ⟨fun ht => absurd ht hw, fun _ => rfl⟩

/-- An operation that makes memory: R is told of its value, the world behind it and what was made. -/
def freshUpon (P : Program) (w : World) (R : Value → World → List Ent → Prop) : Result Next → Prop
  | .ok (.value v) w' => ∃ E, R v w' E
  | .ok (.enter f args) w' => w' = w ∧ Calls P f args w fun e w'' => ∃ v E, e = .returned v ∧ R v w'' E
  | _ => False

/-- What makes memory, one behind the other, and then the tail. -/
def Fresh (P : Program) (l : List Oper) (n : Nat) (Q : Exit → Act → World → Prop) (w0 : World) (Lq : List Ent) : List Nat → Act → List Ent → Prop
  | [], af, L => ∀ w, Mem w0 L w → wpList P l.toArray Q (l.drop n) af w
  | j :: js, af, L => ∃ o, l[j]? = some o ∧ o.guard = none ∧ ∀ w, Mem w0 L w → freshUpon P w (fun v w' L' => Mem w0 L' w' ∧ (∀ w, Mem w0 L' w → Mem w0 Lq w) ∧ Fresh P l n Q w0 Lq js (af.put o.dst v) L') ((execOp af.eval o).run P w)

def chainF (l : List Oper) : List Nat → Bool
  | j :: k :: r => (match l[k]? with | some o => o.after.any fun e => Region.binds .any e && e.on == j | none => false) && chainF l (k :: r)
  | _ => true
theorem chainF_spec : ∀ (rs : List Nat) (j0 : Nat), chainF l (j0 :: rs) = true → ∀ i ∈ rs, ∃ p ∈ j0 :: rs, ∃ o, l[i]? = some o ∧ ∃ e ∈ o.after, Region.binds .any e = true ∧ e.on = p
  | [], _, _, i, hi => by cases hi
  | k :: r, j0, h, i, hi => by
    simp only [chainF, Bool.and_eq_true] at h
    rcases List.mem_cons.1 hi with rfl | hi
    · cases ho : l[i]? with
      | none => rw [ho] at h; simp at h
      | some o =>
        rw [ho] at h
        obtain ⟨e, he, hb⟩ := Array.any_eq_true'.1 h.1
        simp only [Bool.and_eq_true, beq_iff_eq] at hb
        exact ⟨j0, by simp, o, rfl, e, he, hb.1, hb.2⟩
    · obtain ⟨p, hp, o, ho, e, he, hb⟩ := chainF_spec r k h.2 i hi
      exact ⟨p, List.mem_cons_of_mem _ hp, o, ho, e, he, hb⟩

/-- Between two operations of the head. rs: what is still to be made; af: the frame as it will be, but for that. -/
structure Half (P : Program) (l : List Oper) (fs : List Nat) (Q : Exit → Act → World → Prop) (w0 : World) (L0 : List Ent) (n : Nat) (v : Nat → Value) (a0 : Act) (rs : List Nat) (af : Act) (listed : Array Bool) (a : Act) (w : World) : Prop where
  inv : HeadInv .any l.toArray n listed
  mem : ∃ L, Mem w0 L w ∧ (∀ w, Mem w0 L w → Mem w0 L0 w) ∧ Fresh P l n Q w0 L0 rs af L
  size : a.tmps.size = a0.tmps.size
  sizef : af.tmps.size = a0.tmps.size
  defers : a.defers = a0.defers
  defersf : af.defers = a0.defers
  suf : ∃ ds, fs = ds ++ rs
  todo : ∀ j, j < n → fs.contains j = true → (listed.getD j true = false ↔ j ∈ rs)
  done : ∀ j d, j < n → listed.getD j true = true → dstAt l j = some d → a.tmps[d]? = af.tmps[d]?
  rest : ∀ d, (∀ j, j < n → listed.getD j true = true → dstAt l j ≠ some d) → a.tmps[d]? = a0.tmps[d]?
  full : ∀ d, (∀ j, j < n → fs.contains j = true → listed.getD j true = true → dstAt l j ≠ some d) → af.tmps[d]? = (fr l fs v a0 n).tmps[d]?

variable {w0 : World} {L0 : List Ent}

theorem lt_of_ready {listed : Array Bool} {i : Nat} (h : listed.getD i true = false) : i < listed.size := by
  rcases Nat.lt_or_ge i listed.size with h' | h'
  · exact h'
  · simp [Array.getElem?_eq_none h'] at h

theorem half_af {v : Nat → Value} {a0 a af : Act} {rs : List Nat} {listed : Array Bool} {w : World} (H : Half P l fs Q w0 L0 n v a0 rs af listed a w) {k : Nat} {o : Oper} (ho : HeadOk l fs n k o)
    (hdep : ∀ e ∈ o.after, Region.binds .any e = true → listed.getD e.on false = true) (t : Nat) (ht : t ∈ o.looksAt l.toArray) : a.tmps[t]? = af.tmps[t]? := by
  by_cases hw : ∃ j, j < n ∧ dstAt l j = some t
  · obtain ⟨j, hj, hd⟩ := hw
    obtain ⟨_, _, e, he, hb, hon⟩ := ho.reads j t hj hd ht
    have hl := hdep e he hb
    rw [hon] at hl
    have hl' : listed.getD j true = true := by
      have hjs : j < listed.size := by
        rcases Nat.lt_or_ge j listed.size with h | h
        · exact h
        · simp [Array.getElem?_eq_none h] at hl
      simp [hjs] at hl ⊢; exact hl
    exact H.done j t hj hl' hd
  · have h1 : ∀ j, j < n → dstAt l j ≠ some t := fun j hj hd => hw ⟨j, hj, hd⟩
    rw [H.rest t fun j hj _ => h1 j hj, H.full t fun j hj _ _ => h1 j hj]
    exact (fr_keep v a0 t 0 n (by omega) fun j _ h2 _ => h1 j h2).symm

theorem half_sees {v : Nat → Value} {a0 a af : Act} {rs : List Nat} {listed : Array Bool} {w : World} (H : Half P l fs Q w0 L0 n v a0 rs af listed a w) {k : Nat} {o : Oper} (hk : k < n) (hfk : fs.contains k = false) (ho : HeadOk l fs n k o) (hB : headB l fs n = true)
    (hdep : ∀ e ∈ o.after, Region.binds .any e = true → listed.getD e.on false = true) (t : Nat) (ht : t ∈ o.looksAt l.toArray) : a.tmps[t]? = (fr l fs v a0 k).tmps[t]? := by
  rw [half_af H ho hdep t ht]
  by_cases hw : ∃ j, j < n ∧ dstAt l j = some t
  · obtain ⟨j, hj, hd⟩ := hw
    obtain ⟨hjk, hjf, _⟩ := ho.reads j t hj hd ht
    have uniq : ∀ i, i < n → i ≠ j → dstAt l i ≠ some t := fun i hi hij he => by
      obtain ⟨oi, hoi, hi'⟩ := headB_spec hB i hi
      exact hi'.one j t hj hd (Ne.symm hij) (by simpa [dstAt, hoi] using he)
    rw [H.full t fun i hi hf _ he => ?_]
    · exact fr_keep v a0 t k n (by omega) fun i h1 h2 _ => uniq i h2 (by omega)
    · by_cases hij : i = j
      · subst hij; have := hjf hf; rw [hfk] at this; cases this
      · exact uniq i hi hij he
  · have h1 : ∀ j, j < n → dstAt l j ≠ some t := fun j hj hd => hw ⟨j, hj, hd⟩
    rw [H.full t fun j hj _ _ => h1 j hj, fr_keep v a0 t 0 n (by omega) fun j _ h2 _ => h1 j h2]
    exact (fr_keep v a0 t 0 k (by omega) fun j _ h2 _ => h1 j (by omega)).symm

theorem eval_same {a b : Act} {o : Oper} {ops : Array Oper} (h : ∀ t ∈ o.looksAt ops, a.tmps[t]? = b.tmps[t]?) : ∀ x ∈ o.op.operands, a.eval x = b.eval x := by
  intro x hx
  cases x with
  | tmp t =>
    have : t ∈ o.looksAt ops := by
      unfold Oper.looksAt
      refine List.mem_append_left _ (List.mem_filterMap.2 ⟨.tmp t, by simpa using hx, rfl⟩)
    simp [Act.eval, h t this]
  | _ => rfl
theorem wanted_same {a b : Act} {o : Oper} {ops : Array Oper} (h : ∀ t ∈ o.looksAt ops, a.tmps[t]? = b.tmps[t]?) : Region.wanted o (yielded ops a.tmps) = Region.wanted o (yielded ops b.tmps) := by
  unfold Region.wanted
  cases hg : o.guard with
  | none => rfl
  | some p =>
    obtain ⟨j, b'⟩ := p
    have : yielded ops a.tmps j = yielded ops b.tmps j := by
      unfold yielded
      cases hd : (ops[j]?).bind (·.dst) with
      | none => rfl
      | some d =>
        have hm : d ∈ o.looksAt ops := by unfold Oper.looksAt; rw [hg]; simp [hd]
        simp [h d hm]
    simp [this]

def headDone (size n : Nat) : Array Bool := ((List.range size).map fun i => decide (i < n)).toArray

/-- A quiet operation behind which the world is w'. -/
theorem half_put {v : Nat → Value} {a0 a af : Act} {rs : List Nat} {listed : Array Bool} {w w' : World} (H : Half P l fs Q w0 L0 n v a0 rs af listed a w) {i : Nat} {o : Oper} (hi : i < n) (hfi : fs.contains i = false) (hio : l[i]? = some o) (ho : HeadOk l fs n i o) (hB : headB l fs n = true)
    (hr : i ∈ Region.ready .any l.toArray listed) (hw' : Mem w [] w') : Half P l fs Q w0 L0 n v a0 rs af (listed.setIfInBounds i true) (a.put o.dst (v i)) w' := by
  have hun := (mem_ready.1 hr).1
  have hdi : dstAt l i = o.dst := by simp [dstAt, hio]
  have hlt := lt_of_ready hun
  have getne : ∀ j, j ≠ i → (listed.setIfInBounds i true).getD j true = listed.getD j true := fun j hji => getD_set_ne true (Ne.symm hji)
  have geti : (listed.setIfInBounds i true).getD i true = true := by simp [hlt]
  obtain ⟨L, hL, hsub, hF⟩ := H.mem
  have uniq : ∀ d, dstAt l i = some d → ∀ j, j < n → j ≠ i → dstAt l j ≠ some d := fun d hd j hj hji he => by
    obtain ⟨oj, hoj, hj'⟩ := headB_spec hB j hj
    exact hj'.one i d hi hd (Ne.symm hji) (by simpa [dstAt, hoj] using he)
  refine ⟨H.inv.set hr hi, ⟨L, by simpa using hL.call hw', hsub, hF⟩, by rw [put_size]; exact H.size, H.sizef, by rw [put_def]; exact H.defers, H.defersf, H.suf, fun j hj hf => ?_, fun j d hj hl hd => ?_, fun d hd => ?_, fun d hd => ?_⟩
  · rw [getne j (fun e => by subst e; rw [hfi] at hf; cases hf)]; exact H.todo j hj hf
  · by_cases hji : j = i
    · subst hji
      have hd' := hd
      rw [hdi] at hd
      rw [hd, H.full d fun j' hj' hf' _ => uniq d hd' j' hj' (fun e => by subst e; rw [hfi] at hf'; cases hf')]
      have e1 : (fr l fs v a0 n).tmps[d]? = (fr l fs v a0 (j + 1)).tmps[d]? := fr_keep v a0 d (j + 1) n (by omega) fun i' h1 h2 _ => uniq d hd' i' h2 (by omega)
      rw [e1, fr_some hfi hio, hd]
      exact put_same _ _ _ _ (by rw [H.size, fr_size])
    · rw [getne j hji] at hl
      rw [put_get _ _ _ _ (ho.one j d hj hd hji)]
      exact H.done j d hj hl hd
  · have h1 : o.dst ≠ some d := by
      have := hd i hi geti
      rwa [hdi] at this
    rw [put_get _ _ _ _ h1]
    refine H.rest d fun j hj hl => ?_
    by_cases hji : j = i
    · subst hji; rw [hdi]; exact h1
    · exact hd j hj (by rw [getne j hji]; exact hl)
  · refine H.full d fun j hj hf hl => ?_
    exact hd j hj hf (by rw [getne j (fun e => by subst e; rw [hfi] at hf; cases hf)]; exact hl)

/-- What was to be made next is made. -/
theorem half_make {v : Nat → Value} {a0 a af : Act} {i : Nat} {rs : List Nat} {listed : Array Bool} {w w' : World} (H : Half P l fs Q w0 L0 n v a0 (i :: rs) af listed a w) {o : Oper} (hi : i < n) (hfi : fs.contains i = true) (hnd : fs.Nodup) (hio : l[i]? = some o) (ho : HeadOk l fs n i o)
    (hr : i ∈ Region.ready .any l.toArray listed) {u : Value} {L' : List Ent} (hw' : Mem w0 L' w') (hsub : ∀ w, Mem w0 L' w → Mem w0 L0 w) (hF : Fresh P l n Q w0 L0 rs (af.put o.dst u) L') :
    Half P l fs Q w0 L0 n v a0 rs (af.put o.dst u) (listed.setIfInBounds i true) (a.put o.dst u) w' := by
  have hun := (mem_ready.1 hr).1
  have hdi : dstAt l i = o.dst := by simp [dstAt, hio]
  have hlt := lt_of_ready hun
  have getne : ∀ j, j ≠ i → (listed.setIfInBounds i true).getD j true = listed.getD j true := fun j hji => getD_set_ne true (Ne.symm hji)
  have geti : (listed.setIfInBounds i true).getD i true = true := by simp [hlt]
  obtain ⟨ds, hds⟩ := H.suf
  have hirs : i ∉ rs := fun h => by
    rw [hds] at hnd
    have := (List.nodup_append.1 hnd).2.1
    exact (List.nodup_cons.1 this).1 h
  refine ⟨H.inv.set hr hi, ⟨L', hw', hsub, hF⟩, by rw [put_size]; exact H.size, by rw [put_size]; exact H.sizef, by rw [put_def]; exact H.defers, by rw [put_def]; exact H.defersf, ⟨ds ++ [i], by rw [hds]; simp⟩, fun j hj hf => ?_, fun j d hj hl hd => ?_, fun d hd => ?_, fun d hd => ?_⟩
  · by_cases hji : j = i
    · subst hji; rw [geti]; simp [hirs]
    · rw [getne j hji, H.todo j hj hf]; simp [hji]
  · by_cases hji : j = i
    · subst hji
      rw [hdi] at hd
      rw [hd]
      exact put_same _ _ _ _ (by rw [H.size, H.sizef])
    · rw [getne j hji] at hl
      rw [put_get _ _ _ _ (ho.one j d hj hd hji), put_get _ _ _ _ (ho.one j d hj hd hji)]
      exact H.done j d hj hl hd
  · have h1 : o.dst ≠ some d := by
      have := hd i hi geti
      rwa [hdi] at this
    rw [put_get _ _ _ _ h1]
    refine H.rest d fun j hj hl => ?_
    by_cases hji : j = i
    · subst hji; rw [hdi]; exact h1
    · exact hd j hj (by rw [getne j hji]; exact hl)
  · have h1 : o.dst ≠ some d := by
      have := hd i hi hfi geti
      rwa [hdi] at this
    rw [put_get _ _ _ _ h1]
    refine H.full d fun j hj hf hl => ?_
    by_cases hji : j = i
    · subst hji; rw [hdi]; exact h1
    · exact hd j hj hf (by rw [getne j hji]; exact hl)

theorem half_end {v : Nat → Value} {a0 a af : Act} {rs : List Nat} {listed : Array Bool} {w : World} (H : Half P l fs Q w0 L0 n v a0 rs af listed a w) (hall : ∀ j, j < n → listed.getD j true = true) : a = af := by
  have : a.tmps = af.tmps := by
    apply Array.ext_getElem?
    intro d
    by_cases hw : ∃ j, j < n ∧ dstAt l j = some d
    · obtain ⟨j, hj, hd⟩ := hw
      exact H.done j d hj (hall j hj) hd
    · have h1 : ∀ j, j < n → dstAt l j ≠ some d := fun j hj hd => hw ⟨j, hj, hd⟩
      rw [H.rest d fun j hj _ => h1 j hj, H.full d fun j hj _ _ => h1 j hj]
      exact (fr_keep v a0 d 0 n (by omega) fun j _ h2 _ => h1 j h2).symm
  have h2 : a.defers = af.defers := by rw [H.defers, H.defersf]
  cases a; cases af
  simp_all

/-- How many of the head are still to come. -/
def left (n : Nat) (listed : Array Bool) : Nat := ((List.range n).filter fun i => !listed.getD i true).length
theorem left_set {listed : Array Bool} {i : Nat} (hi : i < n) (hun : listed.getD i true = false) : left n listed = left n (listed.setIfInBounds i true) + 1 := by
  have hlt := lt_of_ready hun
  have key : ∀ m, i < m → ((List.range m).filter fun j => !listed.getD j true).length = ((List.range m).filter fun j => !(listed.setIfInBounds i true).getD j true).length + 1 := by
    intro m
    induction m with
    | zero => intro h; omega
    | succ m ih =>
      intro h
      rw [List.range_succ, List.filter_append, List.filter_append, List.length_append, List.length_append]
      by_cases e : i = m
      · subst e
        have h1 : ((List.range i).filter fun j => !listed.getD j true) = ((List.range i).filter fun j => !(listed.setIfInBounds i true).getD j true) := by
          apply List.filter_congr
          intro j hj
          rw [getD_set_ne true (by have := List.mem_range.1 hj; omega)]
        rw [h1]
        simp only [List.filter_cons, hun, Bool.not_false, if_true, List.filter_nil, List.length_cons, List.length_nil]
        simp [hlt]
      · have := ih (by omega)
        have h2 : (listed.setIfInBounds i true).getD m true = listed.getD m true := getD_set_ne true e
        simp only [List.filter_cons, h2, List.filter_nil]
        omega
  exact key n hi

theorem any_of_half {v : Nat → Value} {a0 : Act} (hB : headB l fs n = true) (hn : n < l.length) (hs : Region.sinkB .any l.toArray n = true) (hc : Region.chainB .any l.toArray n = true)
    (hseq : Region.seqB .any l.toArray (l.length - n) n (headDone l.length n) = true) (hnd : fs.Nodup) (hlt : ∀ j ∈ fs, j < n) (hch : chainF l fs = true) (hq : ∀ k, k < n → fs.contains k = false → QuietHead P l fs (Mem w0 L0) v a0 k) :
    ∀ (m : Nat) (rs : List Nat) (af : Act) (listed : Array Bool) (a : Act) (w : World), left n listed = m → Half P l fs Q w0 L0 n v a0 rs af listed a w → wpAny P .any l.toArray Q (m + (l.length - n)) listed a w
  | 0, rs, af, listed, a, w, hm, H => by
    have hall : ∀ j, j < n → listed.getD j true = true := fun j hj => by
      cases h : listed.getD j true with
      | true => rfl
      | false =>
        have : j ∈ (List.range n).filter fun i => !listed.getD i true := List.mem_filter.2 ⟨List.mem_range.2 hj, by rw [h]; rfl⟩
        rw [List.length_eq_zero_iff.1 hm] at this
        cases this
    have e1 := half_end H hall
    have e2 : listed = headDone l.length n := by
      apply Array.ext_getElem?
      intro j
      have hsz : listed.size = l.length := by simpa using H.inv.size
      by_cases hj : j < l.length
      · have hjs : j < listed.size := by omega
        simp only [headDone, List.getElem?_toArray, List.getElem?_map, List.getElem?_range hj, Option.map_some, Array.getElem?_eq_getElem hjs]
        by_cases hjn : j < n
        · have := hall j hjn
          simp [hjs] at this
          simp [this, hjn]
        · have := H.inv.tail j (by omega) (by simpa using hj)
          simp [hjs] at this
          simp [this, hjn]
      · simp [headDone, show ¬ j < l.length from hj]; omega
    have e3 : rs = [] := by
      cases rs with
      | nil => rfl
      | cons r rs' =>
        obtain ⟨ds, hds⟩ := H.suf
        have hr : r ∈ fs := by rw [hds]; simp
        have := (H.todo r (hlt r hr) (by simpa using hr)).2 (by simp)
        rw [hall r (hlt r hr)] at this; cases this
    subst e1 e2 e3
    obtain ⟨L, hL, _, hF⟩ := H.mem
    have := wpAny_of_seq (P := P) (md := .any) (Q' := Q) (l.drop n) n (headDone l.length n) a w (fun j => by simp [List.getElem?_drop]) (by rw [List.length_drop]; exact hseq) (hF w hL)
    rw [List.length_drop] at this
    rw [Nat.zero_add]
    exact this
  | m + 1, rs, af, listed, a, w, hm, H => by
    rw [show m + 1 + (l.length - n) = (m + (l.length - n)) + 1 by omega]
    obtain ⟨i0, hi0, hun0, hmin⟩ : ∃ i, i < n ∧ listed.getD i true = false ∧ ∀ j, j < i → listed.getD j true = true := by
      have hne : ∃ i, i < n ∧ listed.getD i true = false := by
        cases hf : (List.range n).filter fun i => !listed.getD i true with
        | nil => rw [left, hf] at hm; cases hm
        | cons i r =>
          have : i ∈ (List.range n).filter fun i => !listed.getD i true := by rw [hf]; simp
          obtain ⟨h1, h2⟩ := List.mem_filter.1 this
          exact ⟨i, List.mem_range.1 h1, by simpa using h2⟩
      obtain ⟨i, h1, h2⟩ := hne
      induction i using Nat.strongRecOn with
      | _ i ih =>
        by_cases h : ∃ j, j < i ∧ listed.getD j true = false
        · obtain ⟨j, hj, hj2⟩ := h
          exact ih j hj (by omega) hj2
        · refine ⟨i, h1, h2, fun j hj => ?_⟩
          cases hh : listed.getD j true with
          | true => rfl
          | false => exact absurd ⟨j, hj, hh⟩ h
    have hsz : listed.size = l.length := by simpa using H.inv.size
    have hready : i0 ∈ Region.ready .any l.toArray listed := by
      obtain ⟨o, ho, hok⟩ := headB_spec hB i0 hi0
      refine mem_ready.2 ⟨hun0, o, by simpa using ho, fun e he hb => ?_⟩
      have h1 := hok.back e he hb
      have h2 := hmin e.on h1
      have h3 : e.on < listed.size := by omega
      simp [h3] at h2 ⊢; exact h2
    refine ⟨fun h => (by rw [h] at hready; cases hready), fun i hi => ?_⟩
    have hin : i < n := by
      rcases Nat.lt_or_ge i n with h | h
      · exact h
      · exact absurd hi (tail_waits hs hc (by simpa using hn) H.inv _ i0 rfl hi0 hun0 i h)
    obtain ⟨o, ho, hok⟩ := headB_spec hB i hin
    obtain ⟨hun, o', ho', hdep⟩ := mem_ready.1 hi
    have : o' = o := by simpa [ho] using ho'.symm
    subst this
    have hleft : left n (listed.setIfInBounds i true) = m := by have := left_set hin hun; omega
    obtain ⟨L, hL, hsub, hF⟩ := H.mem
    cases hfi : fs.contains i with
    | false =>
      have hsee := half_sees H hin hfi hok hB hdep
      have ew := wanted_same (ops := l.toArray) hsee
      have ee : execOp a.eval o' = execOp (fr l fs v a0 i).eval o' := execOp_congr o' hok.nosel (eval_same hsee)
      obtain ⟨hq1, hq2⟩ := hq i hin hfi o' ho
      have next : ∀ w', Mem w [] w' → wpAny P .any l.toArray Q (m + (l.length - n)) (listed.setIfInBounds i true) (a.put o'.dst (v i)) w' := fun w' hw' =>
        any_of_half hB hn hs hc hseq hnd hlt hch hq m rs af _ _ w' hleft (half_put H hin hfi ho hok hB hi hw')
      unfold wpOp
      simp only [ho']
      rw [ew]
      split
      · rename_i hwt
        have h1 := hq1 hwt w (hsub w hL)
        refine .inl ?_
        unfold Oper.wp
        rw [ee]
        unfold Oper.quietAt at h1
        generalize (execOp (fr l fs v a0 i).eval o').run P w = r at h1
        unfold Oper.quietUpon at h1
        split at h1
        · obtain ⟨rfl, rfl⟩ := h1; exact next _ (Mem.init _)
        · obtain ⟨rfl, e⟩ := h1; rw [e] at next; exact next _ (Mem.init _)
        · obtain ⟨rfl, hcal⟩ := h1
          exact hcal.mono fun e w'' ⟨he, hm⟩ => by subst he; exact next _ hm
        · exact h1.elim
      · rename_i hwt
        have := hq2 (by simpa using hwt)
        rw [this] at next
        exact next w (Mem.init _)
    | true =>
      have hirs : i ∈ rs := (H.todo i hin hfi).1 hun
      cases rs with
      | nil => cases hirs
      | cons r rs' =>
        have hir : i = r := by
          rcases List.mem_cons.1 hirs with h | h
          · exact h
          · exfalso
            obtain ⟨ds, hds⟩ := H.suf
            have hch' : chainF l (r :: rs') = true := by
              rw [hds] at hch
              have key : ∀ ds : List Nat, chainF l (ds ++ r :: rs') = true → chainF l (r :: rs') = true := by
                intro ds
                induction ds with
                | nil => exact id
                | cons d ds ih =>
                  intro hh
                  cases ds with
                  | nil => simp only [List.cons_append, List.nil_append, chainF, Bool.and_eq_true] at hh; exact hh.2
                  | cons d' ds' => simp only [List.cons_append, chainF, Bool.and_eq_true] at hh; exact ih hh.2
              exact key ds hch
            obtain ⟨p, hp, op, hop, e, he, hb, hon⟩ := chainF_spec rs' r hch' i h
            have : op = o' := by rw [ho] at hop; exact (Option.some.inj hop).symm
            subst this
            have hl := hdep e he hb
            rw [hon] at hl
            have hpf : p ∈ fs := by rw [hds]; exact List.mem_append_right _ hp
            have h1 := (H.todo p (hlt p hpf) (by simpa using hpf)).2 hp
            rw [getD_both h1] at hl
            cases hl
        subst hir
        obtain ⟨of, hof, hg, hrun⟩ := hF
        have : of = o' := by rw [ho] at hof; exact (Option.some.inj hof).symm
        subst this
        have hsee := half_af H hok hdep
        have ee : execOp a.eval of = execOp af.eval of := execOp_congr of hok.nosel (eval_same hsee)
        have h1 := hrun w hL
        have next : ∀ u w' E, (Mem w0 E w' ∧ (∀ w, Mem w0 E w → Mem w0 L0 w) ∧ Fresh P l n Q w0 L0 rs' (af.put of.dst u) E) → wpAny P .any l.toArray Q (m + (l.length - n)) (listed.setIfInBounds i true) (a.put of.dst u) w' := fun u w' E ⟨hw', hs', hF'⟩ =>
          any_of_half hB hn hs hc hseq hnd hlt hch hq m rs' (af.put of.dst u) _ _ w' hleft (half_make H hin hfi hnd ho hok hi hw' hs' hF')
        unfold wpOp
        simp only [ho']
        rw [if_pos (by simp [Region.wanted, hg])]
        refine .inl ?_
        unfold Oper.wp
        rw [ee]
        generalize (execOp af.eval of).run P w = r at h1
        unfold freshUpon at h1
        split at h1
        · obtain ⟨E, hR⟩ := h1; exact next _ _ E hR
        · obtain ⟨rfl, hcal⟩ := h1
          exact hcal.mono fun e w'' ⟨u, E, he, hR⟩ => by subst he; exact next u _ E hR
        · exact h1.elim

def tailB (l : List Oper) (fs : List Nat) (n : Nat) : Bool :=
  headB l fs n && decide (n < l.length) && Region.sinkB .any l.toArray n && Region.chainB .any l.toArray n && Region.seqB .any l.toArray (l.length - n) n (headDone l.length n) &&
    decide fs.Nodup && (fs.all fun j => decide (j < n)) && chainF l fs

theorem wp_region_head {id : Nat} {ro : Option Nat} [Tame Q] {a : Act} {w : World} (n : Nat) (hnd : noDefer l = true) (hm : P.follows .mixedOrders = true) (hB : tailB l fs n = true) {L : List Ent} (hC : Mem w0 L { w with drawn := w.drawn + 1 }) (hsub : ∀ w, Mem w0 L w → Mem w0 L0 w)
    (h : wpHead P l.toArray fs (Mem w0 L0) (fun a' => Fresh P l n Q w0 L0 fs a' L) 0 (l.take n) a) : (Code.region id l.toArray true).wpIn (fen ro) 0 P Q a w := by
  simp only [tailB, Bool.and_eq_true, decide_eq_true_eq] at hB
  obtain ⟨⟨⟨⟨⟨⟨⟨h1, h2⟩, h3⟩, h4⟩, h5⟩, h6⟩, h7⟩, h8⟩ := hB
  have h7' : ∀ j ∈ fs, j < n := fun j hj => by have := List.all_eq_true.1 h7 j hj; simpa using this
  obtain ⟨v, _, g2, g3⟩ := heads_of_quiet (P := P) (C := Mem w0 L0) (l := l) (fs := fs) n 0 a (fun _ => undef) (by omega) (by simpa [fr] using h)
  refine fen_region_any hnd hm ?_
  have inv0 : HeadInv .any l.toArray n (Array.replicate l.toArray.size false) :=
    ⟨by simp, fun j oj _ hl => (by rw [getD_replicate_false] at hl; cases hl), fun t _ ht => getD_in (by simpa using ht) (getD_replicate_false _ _)⟩
  have hleft : left n (Array.replicate l.toArray.size false) = n := by
    unfold left
    rw [List.filter_eq_self.2 (fun j hj => ?_), List.length_range]
    have hj' := List.mem_range.1 hj
    simp [show j < l.length by omega]
  rw [Nat.zero_add] at g3
  have := any_of_half (P := P) (Q := Q) (w0 := w0) (L0 := L0) (v := v) (a0 := a) h1 h2 h3 h4 h5 h6 h7' h8 (fun k hk hf => g2 k (by omega) (by omega) hf) n fs (fr l fs v a n) (Array.replicate l.toArray.size false) a _ hleft
    ⟨inv0, ⟨L, hC, hsub, g3⟩, rfl, fr_size v a n, rfl, fr_def v a n, ⟨[], rfl⟩, fun j hj hf => ?_, fun j d hj hl => ?_, fun _ _ => rfl, fun _ _ => rfl⟩
  · rw [show n + (l.length - n) = l.toArray.size by simp; omega] at this
    exact this
  · have : j ∈ fs := by simpa using hf
    simp [show j < l.length by omega, this]
  · simp [show j < l.length by omega] at hl
end
end Go.Eng
