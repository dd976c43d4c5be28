/- A region that draws its order, told in one line: operations that only read and yield stand wherever; what makes or writes memory goes one behind the other. -/
import Derived.Test.YtldkgicmfbofiaaDoorTail
set_option linter.unusedSimpArgs false
set_option linter.unusedVariables false
namespace Go.Eng
section
variable {P : Program} {l : List Oper} {Q : Exit → Act → World → Prop} {fs : List Nat} {w0 : World}

/-- The operation makes a new block of zeros, whatever the frame tells. -/
def IsAlloc (P : Program) (o : Oper) (t : TypeId) (z : Value) : Prop := ∀ (ρ : Operand → Value) (w : World), (execOp ρ o).run P w = .ok (.value (.pointer (some ⟨w.heap.size, 0, none⟩))) (w.alloc (.cells z.cells t))
theorem IsAlloc.uniq {o : Oper} {t t' : TypeId} {z z' : Value} (h : IsAlloc P o t z) (h' : IsAlloc P o t' z') (b : Nat) : blk b z.cells t = blk b z'.cells t' := by
  have w0 : World := default
  have h1 := h (fun _ => undef) w0
  rw [h' (fun _ => undef) w0] at h1
  simp only [Result.ok.injEq, true_and] at h1
  have h2 := congrArg (fun w : World => w.heap[w0.heap.size]?) h1
  simp only [Below.heap_new] at h2
  simp only [Option.some.injEq, Obj.cells.injEq] at h2
  rw [h2.1, h2.2.1]
def upon (P : Program) (w : World) (R : Value → World → Prop) : Result Next → Prop
  | .ok (.value v) w' => R v w'
  | .ok .skip w' => R undef w'
  | .ok (.enter f args) w' => w' = w ∧ Calls P f args w fun e w'' => ∃ v, e = .returned v ∧ R v w''
  | _ => False

/-- The region's operations in the line ord. af: the frame of the line; Lq: the memory that quiet operations may still look at later. A quiet operation k with k + 1000 in fs looks at the memory as it is at its place: all that makes or writes behind it must wait for it. Those k of fs with k + 2000 in fs make blocks of zeros, in whatever order among themselves. -/
def Lin (P : Program) (l : List Oper) (fs : List Nat) (Q : Exit → Act → World → Prop) (w0 : World) : List Nat → Act → List Ent → List Ent → Prop
  | [], af, L, _ => ∀ w, Mem w0 L w → Q .normal af w
  | k :: ord, af, L, Lq => ∃ o, l[k]? = some o ∧ (if fs.contains k = true then (if fs.contains (k + 2000) = true then
      o.guard = none ∧ ∃ t z, IsAlloc P o t z ∧ ∀ b, Lin P l fs Q w0 ord (af.put o.dst (.pointer (some ⟨b, 0, none⟩))) (blk b z.cells t :: L) Lq
    else
      Region.wanted o (yielded l.toArray af.tmps) = true ∧ ∀ w, Mem w0 L w → upon P w (fun v w' => ∃ L' Lq', Mem w0 L' w' ∧ (∀ w, Mem w0 L' w → Mem w0 Lq' w) ∧ (∀ w, Mem w0 Lq' w → Mem w0 Lq w) ∧ Lin P l fs Q w0 ord (af.put o.dst v) L' Lq') ((execOp af.eval o).run P w))
    else ∃ v, (Region.wanted o (yielded l.toArray af.tmps) = true → quietR P o af (Mem w0 (if fs.contains (k + 1000) = true then L else Lq)) v) ∧ (Region.wanted o (yielded l.toArray af.tmps) = false → v = undef) ∧ Lin P l fs Q w0 ord (af.put o.dst v) L Lq)

def deps (o : Oper) : List Nat := (o.after.toList.filter fun e => Region.binds .any e).map (·.on)

/-- One operation of the line, behind prev, of which seen make or write. -/
def linOp (l : List Oper) (fs : List Nat) (A : List (List Nat)) (prev seen : List Nat) (k : Nat) (o : Oper) : Bool :=
  (!fs.contains k || (prev.all fun j => !fs.contains (j + 1000) || (A.getD k []).contains j)) &&
  (match o.op with | .select .. => false | _ => true) &&
  ((deps o).all fun j => decide (j < k)) &&
  (fs.contains (k + 2000) || seen.all fun f => (A.getD k []).contains f) &&
  ((A.getD k []).all fun f => (deps o).any fun j => j == f || (A.getD j []).contains f) &&
  ((List.range l.length).all fun j => match dstAt l j with
    | none => true
    | some d => (!(o.looksAt l.toArray).contains d || (prev.contains j && (deps o).contains j)) && (j == k || o.dst != some d))
def linGo (l : List Oper) (fs : List Nat) (A : List (List Nat)) : List Nat → List Nat → List Nat → Bool
  | _, _, [] => true
  | prev, seen, k :: ord => (match l[k]? with | none => false | some o => linOp l fs A prev seen k o) && (!fs.contains k || fs.contains (k + 2000) || ord.all fun j => !fs.contains (j + 2000)) && linGo l fs A (k :: prev) (if fs.contains k then k :: seen else seen) ord
def linB (l : List Oper) (fs : List Nat) (A : List (List Nat)) (ord : List Nat) : Bool :=
  ((List.range l.length).all fun j => ord.contains j) && decide ord.Nodup && (ord.all fun j => decide (j < l.length)) && (fs.all fun j => decide (j < 2000)) && linGo l fs A [] [] ord
def linB2 (l : List Oper) (fs : List Nat) (A : List (List Nat)) (ord : List Nat) : Bool :=
  ((List.range l.length).all fun j => ord.contains j) && decide ord.Nodup && (ord.all fun j => decide (j < l.length)) && linGo l fs A [] [] ord

structure OpOk (l : List Oper) (fs : List Nat) (A : List (List Nat)) (prev seen : List Nat) (k : Nat) (o : Oper) : Prop where
  tmp : fs.contains k = true → ∀ j ∈ prev, fs.contains (j + 1000) = true → j ∈ A.getD k []
  nosel : ∀ cs b, o.op ≠ .select cs b
  back : ∀ e ∈ o.after, Region.binds .any e = true → e.on < k
  anc : fs.contains (k + 2000) = false → ∀ f ∈ seen, f ∈ A.getD k []
  cert : ∀ f ∈ A.getD k [], ∃ e ∈ o.after, Region.binds .any e = true ∧ (e.on = f ∨ f ∈ A.getD e.on [])
  reads : ∀ j d, j < l.length → dstAt l j = some d → d ∈ o.looksAt l.toArray → j ∈ prev ∧ ∃ e ∈ o.after, Region.binds .any e = true ∧ e.on = j
  one : ∀ j d, j < l.length → dstAt l j = some d → j ≠ k → o.dst ≠ some d

theorem mem_deps {o : Oper} {j : Nat} : j ∈ deps o ↔ ∃ e ∈ o.after, Region.binds .any e = true ∧ e.on = j := by
  unfold deps
  simp only [List.mem_map, List.mem_filter]
  constructor
  · rintro ⟨e, ⟨h1, h2⟩, h3⟩; exact ⟨e, by simpa using h1, h2, h3⟩
  · rintro ⟨e, h1, h2, h3⟩; exact ⟨e, ⟨by simpa using h1, h2⟩, h3⟩

theorem linOp_spec {A : List (List Nat)} {prev seen : List Nat} {k : Nat} {o : Oper} (h : linOp l fs A prev seen k o = true) : OpOk l fs A prev seen k o := by
  simp only [linOp, Bool.and_eq_true] at h
  obtain ⟨⟨⟨⟨⟨h0, h1⟩, h2⟩, h3⟩, h4⟩, h5⟩ := h
  refine ⟨fun hk j hj ht => by
    rw [hk, Bool.not_true, Bool.false_or] at h0
    have := List.all_eq_true.1 h0 j hj
    rw [ht] at this
    simpa using this, fun cs b e => by rw [e] at h1; simp at h1, fun e he hb => ?_, fun hal f hf => ?_, fun f hf => ?_, fun j d hj hd hl => ?_, fun j d hj hd hne => ?_⟩
  · have := List.all_eq_true.1 h2 e.on (mem_deps.2 ⟨e, he, hb, rfl⟩)
    simpa using this
  · rw [hal, Bool.false_or] at h3
    have := List.all_eq_true.1 h3 f hf
    simpa using this
  · have := List.all_eq_true.1 h4 f hf
    obtain ⟨j, hj, hj2⟩ := List.any_eq_true.1 this
    obtain ⟨e, he, hb, rfl⟩ := mem_deps.1 hj
    exact ⟨e, he, hb, by simpa using hj2⟩
  · have := List.all_eq_true.1 h5 j (List.mem_range.2 hj)
    rw [hd] at this
    simp only [Bool.and_eq_true, Bool.or_eq_true, Bool.not_eq_true'] at this
    rcases this.1 with h6 | h6
    · exact absurd hl (by simpa using h6)
    · exact ⟨by simpa using h6.1, mem_deps.1 (by simpa using h6.2)⟩
  · have := List.all_eq_true.1 h5 j (List.mem_range.2 hj)
    rw [hd] at this
    simp only [Bool.and_eq_true, Bool.or_eq_true, beq_iff_eq] at this
    rcases this.2 with h6 | h6
    · exact absurd h6 hne
    · simpa using h6

/-- What is asked of each operation, by its place in the line. -/
theorem linGo_spec {A : List (List Nat)} : ∀ (ord prev seen : List Nat), linGo l fs A prev seen ord = true → ∀ (x : List Nat) (k : Nat) (y : List Nat), ord = x ++ k :: y →
    ∃ o, l[k]? = some o ∧ OpOk l fs A (x.reverse ++ prev) ((x.filter fun j => fs.contains j).reverse ++ seen) k o ∧ (fs.contains k = true → fs.contains (k + 2000) = false → ∀ j ∈ y, fs.contains (j + 2000) = false)
  | [], _, _, _, x, k, y, e => by simp at e
  | k0 :: ord, prev, seen, h, x, k, y, e => by
    simp only [linGo, Bool.and_eq_true] at h
    cases x with
    | nil =>
      simp only [List.nil_append, List.cons.injEq] at e
      obtain ⟨rfl, rfl⟩ := e
      cases ho : l[k0]? with
      | none => rw [ho] at h; simp at h
      | some o =>
        rw [ho] at h
        refine ⟨o, rfl, by simpa using linOp_spec h.1.1, fun h1 h2 j hj => ?_⟩
        have h3 := h.1.2
        rw [h1, h2] at h3
        simp only [Bool.not_true, Bool.false_or] at h3
        have := List.all_eq_true.1 h3 j hj
        simpa using this
    | cons x0 x =>
      simp only [List.cons_append, List.cons.injEq] at e
      obtain ⟨rfl, rfl⟩ := e
      obtain ⟨o, ho, hk, hy⟩ := linGo_spec _ _ _ h.2 x k y rfl
      refine ⟨o, ho, ?_, hy⟩
      have e1 : (k0 :: x).reverse ++ prev = x.reverse ++ (k0 :: prev) := by simp
      have e2 : (((k0 :: x).filter fun j => fs.contains j).reverse ++ seen) = (x.filter fun j => fs.contains j).reverse ++ (if fs.contains k0 then k0 :: seen else seen) := by
        cases hc : fs.contains k0 with
        | true =>
          rw [List.filter_cons, if_pos hc, List.reverse_cons, List.append_assoc]; rfl
        | false =>
          rw [List.filter_cons, if_neg (by rw [hc]; exact Bool.false_ne_true)]; rfl
      rw [e1, e2]; exact hk

def slotIs (N0 d : Nat) (v : Value) (a : Act) : Prop := a.tmps[d]? = if d < N0 then some v else none
theorem slotIs_put {N0 d : Nat} {v : Value} {a : Act} (h : a.tmps.size = N0) : slotIs N0 d v (a.put (some d) v) := by
  subst h
  unfold slotIs
  simp [Act.put, Array.getElem?_setIfInBounds]

/-- Operation k is still to come, and yields its part of the line's frame. -/
def Pend (P : Program) (l : List Oper) (w0 : World) (N0 k : Nat) (af : Act) (Lq : List Ent) : Prop :=
  ∃ o v, l[k]? = some o ∧ (∀ d, o.dst = some d → slotIs N0 d v af) ∧ (Region.wanted o (yielded l.toArray af.tmps) = true → quietR P o af (Mem w0 Lq) v) ∧ (Region.wanted o (yielded l.toArray af.tmps) = false → v = undef)

/-- A block that was made ahead of its place in the line. -/
def Early (P : Program) (l : List Oper) (fs : List Nat) (N0 : Nat) (suf : List Nat) (listed : Array Bool) (a : Act) (e : Nat × Ent) : Prop :=
  e.1 ∈ suf ∧ listed.getD e.1 true = true ∧ fs.contains e.1 = true ∧ fs.contains (e.1 + 2000) = true ∧ ∃ o t z b, l[e.1]? = some o ∧ IsAlloc P o t z ∧ e.2 = blk b z.cells t ∧ ∀ d, o.dst = some d → slotIs N0 d (.pointer (some ⟨b, 0, none⟩)) a
structure Core (P : Program) (l : List Oper) (fs : List Nat) (Q : Exit → Act → World → Prop) (w0 : World) (ord : List Nat) (a0 : Act) (pre suf : List Nat) (af : Act) (L Lq : List Ent) (E : List (Nat × Ent)) (listed : Array Bool) (a : Act) (w : World) : Prop where
  ord : ord = pre ++ suf
  inv : HeadInv .any l.toArray l.length listed
  mem : Mem w0 (E.map (·.2) ++ L) w
  ear : ∀ e ∈ E, Early P l fs a0.tmps.size suf listed a e
  keys : (E.map (·.1)).Nodup
  sees : ∀ w, Mem w0 L w → Mem w0 Lq w
  lin : Lin P l fs Q w0 suf af L Lq
  size : a.tmps.size = a0.tmps.size
  sizef : af.tmps.size = a0.tmps.size
  defers : a.defers = a0.defers
  defersf : af.defers = a0.defers
  sub : ∀ j, j < l.length → listed.getD j true = true → j ∈ pre ∨ j ∈ E.map (·.1)
  fresh : ∀ j ∈ pre, fs.contains j = true → listed.getD j true = true
  pend : ∀ j ∈ pre, listed.getD j true = false → Pend P l w0 a0.tmps.size j af (if fs.contains (j + 1000) = true then L else Lq)
  done : ∀ j d, j < l.length → listed.getD j true = true → j ∈ pre → dstAt l j = some d → a.tmps[d]? = af.tmps[d]?
  rest : ∀ d, (∀ j, j < l.length → listed.getD j true = true → dstAt l j ≠ some d) → a.tmps[d]? = a0.tmps[d]?
  full : ∀ d, (∀ j ∈ pre, dstAt l j ≠ some d) → af.tmps[d]? = a0.tmps[d]?

variable {A : List (List Nat)} {ord : List Nat} {a0 : Act}

theorem looks_same {o : Oper} (hn : ∀ cs b, o.op ≠ .select cs b) {a b : Act} (h : ∀ t ∈ o.looksAt l.toArray, a.tmps[t]? = b.tmps[t]?) :
    execOp a.eval o = execOp b.eval o ∧ Region.wanted o (yielded l.toArray a.tmps) = Region.wanted o (yielded l.toArray b.tmps) :=
  ⟨execOp_congr o hn (eval_same h), wanted_same h⟩
theorem quietR_congr {o : Oper} {a b : Act} {C D : World → Prop} {v : Value} (e : execOp a.eval o = execOp b.eval o) (hD : ∀ w, D w → C w) (h : quietR P o a C v) : quietR P o b D v := fun w hw => by
  have := h w (hD w hw)
  unfold Oper.quietAt at this ⊢
  rw [← e]; exact this

/-- What is pending stays so when the line goes on by operation i. -/
theorem pend_put {pre suf : List Nat} {i k N0 : Nat} {af : Act} {Lq Lq' : List Ent} {oi : Oper} {u : Value} (hB : linGo l fs A [] [] ord = true) (hnd : ord.Nodup) (hlt : ∀ j ∈ ord, j < l.length) (ho : ord = pre ++ i :: suf) (hio : l[i]? = some oi) (hk : k ∈ pre) (hq : ∀ w, Mem w0 Lq' w → Mem w0 Lq w)
    (h : Pend P l w0 N0 k af Lq) : Pend P l w0 N0 k (af.put oi.dst u) Lq' := by
  obtain ⟨o, v, h1, h2, h3, h4⟩ := h
  obtain ⟨x, y, rfl⟩ := List.append_of_mem hk
  have ho' : ord = x ++ k :: (y ++ i :: suf) := by rw [ho]; simp
  obtain ⟨o', hko, hok, -⟩ := linGo_spec ord [] [] hB x k _ ho'
  have : o' = o := by rw [h1] at hko; exact (Option.some.inj hko).symm
  subst this
  have hil : i < l.length := (List.getElem?_eq_some_iff.1 hio).1
  have hdi : dstAt l i = oi.dst := by simp [dstAt, hio]
  have hik : i ≠ k := fun e => by
    subst e
    rw [ho'] at hnd
    have := (List.nodup_append.1 hnd).2.1
    exact (List.nodup_cons.1 this).1 (by simp)
  have hix : i ∉ x := fun hx => by
    rw [ho'] at hnd
    exact (List.nodup_append.1 hnd).2.2 i hx i (by simp) rfl
  have hlook : ∀ t ∈ o'.looksAt l.toArray, af.tmps[t]? = (af.put oi.dst u).tmps[t]? := fun t ht => by
    refine (put_get _ _ _ _ fun e => ?_).symm
    obtain ⟨hp, _⟩ := hok.reads i t hil (by rw [hdi]; exact e) ht
    rw [List.append_nil, List.mem_reverse] at hp
    exact hix hp
  obtain ⟨e1, e2⟩ := looks_same hok.nosel hlook
  refine ⟨o', v, h1, fun d hd => ?_, fun hw => quietR_congr e1 hq (h3 (by rw [e2]; exact hw)), fun hw => h4 (by rw [e2]; exact hw)⟩
  have := h2 d hd
  unfold slotIs at this ⊢
  rw [put_get _ _ _ _ fun e => ?_]
  · exact this
  · exact hok.one i d hil (by rw [hdi]; exact e) hik hd

theorem mem_split {E : List (Nat × Ent)} {k : Nat} (h : k ∈ E.map (·.1)) : ∃ E1 x E2, E = E1 ++ (k, x) :: E2 := by
  obtain ⟨e, he, rfl⟩ := List.mem_map.1 h
  obtain ⟨E1, E2, rfl⟩ := List.append_of_mem he
  exact ⟨E1, e.2, E2, rfl⟩
/-- The line goes on as far as the next operation that makes or writes and is still to come. -/
theorem core_adv (hB : linGo l fs A [] [] ord = true) (hnd : ord.Nodup) (hlt : ∀ j ∈ ord, j < l.length) : ∀ (suf pre : List Nat) (af : Act) {L Lq : List Ent} {E : List (Nat × Ent)} {listed : Array Bool} {a : Act} {w : World}, Core P l fs Q w0 ord a0 pre suf af L Lq E listed a w →
    ∃ pre' suf' af' L' E', Core P l fs Q w0 ord a0 pre' suf' af' L' Lq E' listed a w ∧ (suf' = [] ∨ ∃ f r, suf' = f :: r ∧ fs.contains f = true ∧ f ∉ E'.map (·.1))
  | [], pre, af, L, _, E, _, _, _, H => ⟨pre, [], af, L, E, H, .inl rfl⟩
  | k :: suf, pre, af, L, Lq, E, listed, a, w, H => by
    have hkp : k ∉ pre := fun h => by
      have hnd' := hnd
      rw [H.ord] at hnd'
      exact (List.nodup_append.1 hnd').2.2 k h k (by simp) rfl
    have hun : ∀ j, j ∈ pre → j ≠ k := fun j hj e => hkp (e ▸ hj)
    have hks : k ∉ suf := fun h => by
      have hnd' := hnd
      rw [H.ord] at hnd'
      exact (List.nodup_cons.1 (List.nodup_append.1 hnd').2.1).1 h
    obtain ⟨o', hko', hok, -⟩ := linGo_spec ord [] [] hB pre k suf H.ord
    have hkl : k < l.length := (List.getElem?_eq_some_iff.1 hko').1
    have hdk : dstAt l k = o'.dst := by simp [dstAt, hko']
    cases hf : fs.contains k with
    | true =>
      by_cases hE : k ∈ E.map (·.1)
      · obtain ⟨E1, x, E2, rfl⟩ := mem_split hE
        obtain ⟨_, hlk, _, hal, oe, t, z, b, hoe, hA, hx, hsl⟩ := H.ear (k, x) (by simp)
        simp only at hlk hal hoe hx hsl
        have e0 : oe = o' := by rw [hoe] at hko'; exact Option.some.inj hko'
        subst e0
        obtain ⟨o, hko, hl⟩ := H.lin
        rw [if_pos hf, if_pos hal] at hl
        have e1 : o = oe := by rw [hko] at hko'; exact Option.some.inj hko'
        subst e1
        obtain ⟨_, t2, z2, hA2, hlin⟩ := hl
        have hx2 : x = blk b z2.cells t2 := hx.trans (hA.uniq hA2 b)
        have hperm : (((E1 ++ (k, x) :: E2).map (·.2)) ++ L).Perm (((E1 ++ E2).map (·.2)) ++ x :: L) := by
          simp only [List.map_append, List.map_cons, List.append_assoc, List.cons_append]
          exact List.Perm.append_left _ (List.perm_middle.symm)
        have hkeys := H.keys
        simp only [List.map_append, List.map_cons] at hkeys
        have hkE : ∀ e ∈ E1 ++ E2, e.1 ≠ k := fun e he e2 => by
          obtain ⟨n1, n2, n3⟩ := List.nodup_append.1 hkeys
          rcases List.mem_append.1 he with h | h
          · exact n3 e.1 (List.mem_map_of_mem h) k (by simp) e2
          · exact (List.nodup_cons.1 n2).1 (e2 ▸ List.mem_map_of_mem h)
        refine core_adv hB hnd hlt suf (pre ++ [k]) (af.put o.dst (.pointer (some ⟨b, 0, none⟩))) (L := x :: L) (E := E1 ++ E2) ⟨by rw [H.ord]; simp, H.inv, H.mem.perm hperm, fun e he => ?_, ?_, fun w hw => H.sees w (hw.sub (List.sublist_cons_self _ _)), by rw [hx2]; exact hlin b, H.size, by rw [put_size]; exact H.sizef, H.defers, by rw [put_def]; exact H.defersf, fun j hj hl => ?_, fun j hj hf' => ?_, fun j hj hl => ?_, fun j d hj hl hjp hd => ?_, H.rest, fun d hd => ?_⟩
        · have hm : e ∈ E1 ++ (k, x) :: E2 := by
            rcases List.mem_append.1 he with h | h
            · exact List.mem_append_left _ h
            · exact List.mem_append_right _ (List.mem_cons_of_mem _ h)
          obtain ⟨g1, g2⟩ := H.ear e hm
          exact ⟨(List.mem_cons.1 g1).resolve_left (hkE e he), g2⟩
        · rw [List.map_append]
          exact hkeys.sublist (List.Sublist.append_left (List.sublist_cons_self _ _) _)
        · rcases H.sub j hj hl with h | h
          · exact .inl (List.mem_append_left _ h)
          · simp only [List.map_append, List.map_cons, List.mem_append, List.mem_cons] at h
            rcases h with h | h | h
            · exact .inr (by simp only [List.map_append, List.mem_append]; exact .inl h)
            · exact .inl (by rw [h]; simp)
            · exact .inr (by simp only [List.map_append, List.mem_append]; exact .inr h)
        · rcases List.mem_append.1 hj with h | h
          · exact H.fresh j h hf'
          · obtain rfl := List.mem_singleton.1 h; exact hlk
        · rcases List.mem_append.1 hj with h | h
          · have hp := H.pend j h hl
            cases htj : fs.contains (j + 1000) with
            | true =>
              rw [htj] at hp
              simp only [if_true] at hp ⊢
              exact pend_put hB hnd hlt H.ord hko h (fun w hw => hw.sub (List.sublist_cons_self _ _)) hp
            | false =>
              rw [htj] at hp
              simp only [Bool.false_eq_true, if_false] at hp ⊢
              exact pend_put hB hnd hlt H.ord hko h (fun _ h => h) hp
          · obtain rfl := List.mem_singleton.1 h
            rw [hlk] at hl; cases hl
        · rcases List.mem_append.1 hjp with h | h
          · rw [put_get _ _ _ _ (hok.one j d hj hd (hun j h))]
            exact H.done j d hj hl h hd
          · obtain rfl := List.mem_singleton.1 h
            rw [hdk] at hd
            have h3 := hsl d hd
            rw [hd]
            have h4 : slotIs a0.tmps.size d (.pointer (some ⟨b, 0, none⟩)) (af.put (some d) (.pointer (some ⟨b, 0, none⟩))) := slotIs_put H.sizef
            unfold slotIs at h3 h4
            rw [h3, h4]
        · rw [put_get _ _ _ _ (by have := hd k (by simp); rwa [hdk] at this)]
          exact H.full d fun j hj => hd j (List.mem_append_left _ hj)
      · exact ⟨pre, k :: suf, af, L, E, H, .inr ⟨k, suf, rfl, hf, hE⟩⟩
    | false =>
      obtain ⟨o, hko, hl⟩ := H.lin
      rw [if_neg (by rw [hf]; exact Bool.false_ne_true)] at hl
      obtain ⟨v, h1, h2, h3⟩ := hl
      have : o' = o := by rw [hko] at hko'; exact (Option.some.inj hko').symm
      subst this
      have hlook : ∀ t ∈ o'.looksAt l.toArray, af.tmps[t]? = (af.put o'.dst v).tmps[t]? := fun t ht => by
        refine (put_get _ _ _ _ fun e => ?_).symm
        obtain ⟨hp, _⟩ := hok.reads k t hkl (by rw [hdk]; exact e) ht
        rw [List.append_nil, List.mem_reverse] at hp
        exact hkp hp
      obtain ⟨e1, e2⟩ := looks_same hok.nosel hlook
      refine core_adv hB hnd hlt suf (pre ++ [k]) (af.put o'.dst v) ⟨by rw [H.ord]; simp, H.inv, H.mem, fun e he => ?_, H.keys, H.sees, h3, H.size, by rw [put_size]; exact H.sizef, H.defers, by rw [put_def]; exact H.defersf, fun j hj hl => (H.sub j hj hl).imp_left fun h => List.mem_append_left _ h, fun j hj hf' => ?_, fun j hj hl => ?_, fun j d hj hl hjp hd => ?_, H.rest, fun d hd => ?_⟩
      · obtain ⟨g1, g2, g3, g4⟩ := H.ear e he
        exact ⟨(List.mem_cons.1 g1).resolve_left (fun e2 => by rw [e2, hf] at g3; cases g3), g2, g3, g4⟩
      · rcases List.mem_append.1 hj with h | h
        · exact H.fresh j h hf'
        · obtain rfl := List.mem_singleton.1 h
          rw [hf] at hf'; cases hf'
      · rcases List.mem_append.1 hj with h | h
        · exact pend_put hB hnd hlt H.ord hko h (fun _ h => h) (H.pend j h hl)
        · obtain rfl := List.mem_singleton.1 h
          refine ⟨o', v, hko, fun d hd => by rw [hd]; exact slotIs_put H.sizef, fun hw => quietR_congr e1 (fun _ h => h) (h1 (by rw [e2]; exact hw)), fun hw => h2 (by rw [e2]; exact hw)⟩
      · rcases List.mem_append.1 hjp with h | h
        · rw [put_get _ _ _ _ (hok.one j d hj hd (hun j h))]
          exact H.done j d hj hl h hd
        · obtain rfl := List.mem_singleton.1 h
          -- a quiet operation that is listed stands in the line already
          rcases H.sub j hj hl with h5 | h5
          · exact absurd h5 hkp
          · obtain ⟨e, he, hej⟩ := List.mem_map.1 h5
            obtain ⟨_, _, g3, _⟩ := H.ear e he
            rw [hej, hf] at g3; cases g3
      · rw [put_get _ _ _ _ (by have := hd k (by simp); rwa [hdk] at this)]
        exact H.full d fun j hj => hd j (List.mem_append_left _ hj)

theorem split_uniq {x p1 y y' : List Nat} {i : Nat} (hn : (p1 ++ i :: y').Nodup) (h : x ++ i :: y = p1 ++ i :: y') : x = p1 := by
  induction x generalizing p1 with
  | nil =>
    cases p1 with
    | nil => rfl
    | cons q p1 =>
      simp only [List.nil_append, List.cons_append, List.cons.injEq] at h
      obtain ⟨rfl, _⟩ := h
      exact absurd (by simp) (List.nodup_cons.1 hn).1
  | cons c x ih =>
    cases p1 with
    | nil =>
      simp only [List.nil_append, List.cons_append, List.cons.injEq] at h
      obtain ⟨rfl, h2⟩ := h
      rw [← h2] at hn
      exact absurd (by simp) (List.nodup_cons.1 hn).1
    | cons q p1 =>
      simp only [List.cons_append, List.cons.injEq] at h
      obtain ⟨rfl, h2⟩ := h
      rw [ih (List.nodup_cons.1 hn).2 h2]
/-- The certificate of what stands ahead. -/
theorem cert_listed {listed : Array Bool} (hB : linGo l fs A [] [] ord = true) (hin : ∀ j, j < l.length → j ∈ ord) (inv : HeadInv .any l.toArray l.length listed) : ∀ (k : Nat) (o : Oper), l[k]? = some o → (∀ e ∈ o.after, Region.binds .any e = true → listed.getD e.on false = true) →
    ∀ f ∈ A.getD k [], listed.getD f false = true := by
  intro k
  induction k using Nat.strongRecOn with
  | _ k ih =>
    intro o hko hd f hf
    obtain ⟨x, y, hx⟩ := List.append_of_mem (hin k (List.getElem?_eq_some_iff.1 hko).1)
    obtain ⟨o', hko', hok, -⟩ := linGo_spec ord [] [] hB x k y hx
    have : o' = o := by rw [hko] at hko'; exact (Option.some.inj hko').symm
    subst this
    obtain ⟨e, he, hb, h⟩ := hok.cert f hf
    have hl := hd e he hb
    rcases h with rfl | h
    · exact hl
    · have hlt := hok.back e he hb
      have hel : e.on < l.length := by have := (List.getElem?_eq_some_iff.1 hko).1; omega
      exact ih e.on hlt l[e.on] (by simp [hel]) (inv.closed e.on _ (by simp [hel]) hl) f h

theorem getD_tf {listed : Array Bool} {i : Nat} (hi : i < listed.size) (h : listed.getD i false = true) : listed.getD i true = true := by
  simp [hi] at h ⊢; exact h

theorem any_of_core (hB : linGo l fs A [] [] ord = true) (hnd : ord.Nodup) (hlt : ∀ j ∈ ord, j < l.length) (hin : ∀ j, j < l.length → j ∈ ord) (hAq : ∀ k, fs.contains k = false → fs.contains (k + 2000) = false) (hA : ∀ k, fs.contains (k + 2000) = true → ∃ o t z, l[k]? = some o ∧ o.guard = none ∧ IsAlloc P o t z) :
    ∀ (m : Nat) (pre suf : List Nat) (af : Act) (L Lq : List Ent) (E : List (Nat × Ent)) (listed : Array Bool) (a : Act) (w : World), left l.length listed = m → Core P l fs Q w0 ord a0 pre suf af L Lq E listed a w → wpAny P .any l.toArray Q m listed a w
  | 0, pre0, suf0, af0, L0, Lq, E0, listed, a, w, hm, H0 => by
    obtain ⟨pre, suf, af, L, E, H, hsuf⟩ := core_adv hB hnd hlt suf0 pre0 af0 H0
    have hall : ∀ j, j < l.length → listed.getD j true = true := fun j hj => by
      cases h : listed.getD j true with
      | true => rfl
      | false =>
        have : j ∈ (List.range l.length).filter fun i => !listed.getD i true := List.mem_filter.2 ⟨List.mem_range.2 hj, by rw [h]; rfl⟩
        rw [List.length_eq_zero_iff.1 hm] at this
        cases this
    have hr : Region.ready .any l.toArray listed = [] := by
      refine List.eq_nil_iff_forall_not_mem.2 fun i hi => ?_
      obtain ⟨h1, o, h2, _⟩ := mem_ready.1 hi
      rw [hall i (by have := (Array.getElem?_eq_some_iff.1 h2).1; simpa using this)] at h1; cases h1
    have hsuf2 : suf = [] := by
      rcases hsuf with h | ⟨k, r, hs, _, hE⟩
      · exact h
      · exfalso
        have hk : k ∈ ord := by rw [H.ord, hs]; simp
        rcases H.sub k (hlt k hk) (hall k (hlt k hk)) with this | this
        · have hnd' := hnd
          rw [H.ord, hs] at hnd'
          exact absurd rfl ((List.nodup_append.1 hnd').2.2 k this k (by simp))
        · exact hE this
    have hE : E = [] := List.eq_nil_iff_forall_not_mem.2 fun e he => by
      have := (H.ear e he).1
      rw [hsuf2] at this; cases this
    have hlin := H.lin
    rw [hsuf2] at hlin
    have hord := H.ord
    rw [hsuf2, List.append_nil] at hord
    have e1 : a = af := by
      have : a.tmps = af.tmps := by
        apply Array.ext_getElem?
        intro d
        by_cases hw : ∃ j, j < l.length ∧ dstAt l j = some d
        · obtain ⟨j, hj, hd⟩ := hw
          exact H.done j d hj (hall j hj) (by rw [← hord]; exact hin j hj) hd
        · have h1 : ∀ j, j < l.length → dstAt l j ≠ some d := fun j hj hd => hw ⟨j, hj, hd⟩
          rw [H.rest d fun j hj _ => h1 j hj, H.full d fun j hj => h1 j (hlt j (by rw [hord]; exact hj))]
      have h2 : a.defers = af.defers := by rw [H.defers, H.defersf]
      cases a; cases af
      simp_all
    subst e1
    have hmem := H.mem
    rw [hE] at hmem
    exact ⟨hr, hlin w (by simpa using hmem)⟩
  | m + 1, pre0, suf0, af0, L0, Lq, E0, listed, a, w, hm, H0 => by
    obtain ⟨pre, suf, af, L, E, H, hsuf⟩ := core_adv hB hnd hlt suf0 pre0 af0 H0
    have hmL : Mem w0 L w := H.mem.sub (List.sublist_append_right _ _)
    obtain ⟨i0, hi0, hun0, hmin⟩ : ∃ i, i < l.length ∧ listed.getD i true = false ∧ ∀ j, j < i → listed.getD j true = true := by
      have hne : ∃ i, i < l.length ∧ listed.getD i true = false := by
        cases hf : (List.range l.length).filter fun i => !listed.getD i true with
        | nil => rw [left, hf] at hm; cases hm
        | cons i r =>
          have : i ∈ (List.range l.length).filter fun i => !listed.getD i true := by rw [hf]; simp
          obtain ⟨h1, h2⟩ := List.mem_filter.1 this
          exact ⟨i, List.mem_range.1 h1, by simpa using h2⟩
      obtain ⟨i, h1, h2⟩ := hne
      induction i using Nat.strongRecOn with
      | _ i ih =>
        by_cases h : ∃ j, j < i ∧ listed.getD j true = false
        · obtain ⟨j, hj, hj2⟩ := h
          exact ih j hj (by omega) hj2
        · refine ⟨i, h1, h2, fun j hj => ?_⟩
          cases hh : listed.getD j true with
          | true => rfl
          | false => exact absurd ⟨j, hj, hh⟩ h
    have hsz : listed.size = l.length := by simpa using H.inv.size
    have ok : ∀ k, k < l.length → ∃ x y o, ord = x ++ k :: y ∧ l[k]? = some o ∧ OpOk l fs A (x.reverse ++ []) ((x.filter fun j => fs.contains j).reverse ++ []) k o := fun k hk => by
      obtain ⟨x, y, hx⟩ := List.append_of_mem (hin k hk)
      obtain ⟨o, ho, hok, -⟩ := linGo_spec ord [] [] hB x k y hx
      exact ⟨x, y, o, hx, ho, hok⟩
    have hready : i0 ∈ Region.ready .any l.toArray listed := by
      obtain ⟨x, y, o, _, ho, hok⟩ := ok i0 hi0
      refine mem_ready.2 ⟨hun0, o, by simpa using ho, fun e he hb => ?_⟩
      have h1 := hok.back e he hb
      have h2 := hmin e.on h1
      have h3 : e.on < listed.size := by omega
      simp [h3] at h2 ⊢; exact h2
    refine ⟨fun h => (by rw [h] at hready; cases hready), fun i hi => ?_⟩
    obtain ⟨hun, o', ho', hdep⟩ := mem_ready.1 hi
    have hin' : i < l.length := by have := (Array.getElem?_eq_some_iff.1 ho').1; simpa using this
    obtain ⟨x, y, o, hx, ho, hok⟩ := ok i hin'
    have : o' = o := by simpa [ho] using ho'.symm
    subst this
    have hleft : left l.length (listed.setIfInBounds i true) = m := by have := left_set hin' hun; omega
    have hdi : dstAt l i = o'.dst := by simp [dstAt, ho]
    have getne : ∀ j, j ≠ i → (listed.setIfInBounds i true).getD j true = listed.getD j true := fun j hji => getD_set_ne true (Ne.symm hji)
    have geti : (listed.setIfInBounds i true).getD i true = true := by simp [show i < listed.size by omega]
    have hone : ∀ j d, j < l.length → dstAt l j = some d → j ≠ i → o'.dst ≠ some d := hok.one
    have hlook0 : (∀ j ∈ x, j ∈ pre) → ∀ t ∈ o'.looksAt l.toArray, a.tmps[t]? = af.tmps[t]? := fun hpx t ht => by
      by_cases hw : ∃ j, j < l.length ∧ dstAt l j = some t
      · obtain ⟨j, hj, hd⟩ := hw
        obtain ⟨hjx, e, he, hb, hon⟩ := hok.reads j t hj hd ht
        have hl := hdep e he hb
        rw [hon] at hl
        rw [List.append_nil, List.mem_reverse] at hjx
        exact H.done j t hj (getD_tf (by omega) hl) (hpx j hjx) hd
      · have h1 : ∀ j, j < l.length → dstAt l j ≠ some t := fun j hj hd => hw ⟨j, hj, hd⟩
        rw [H.rest t fun j hj _ => h1 j hj, H.full t fun j hj => h1 j (hlt j (by rw [H.ord]; exact List.mem_append_left _ hj))]
    by_cases hip : i ∈ pre
    · -- a quiet operation
      have hpx : ∀ j ∈ x, j ∈ pre := fun j hj => by
        obtain ⟨p1, p2, hp⟩ := List.append_of_mem hip
        have h1 := H.ord
        rw [hp, hx, List.append_assoc, List.cons_append] at h1
        have hnd1 := hnd
        rw [hx] at hnd1
        have h2 : x = p1 := split_uniq (h1 ▸ hnd1) h1
        rw [hp, ← h2]; exact List.mem_append_left _ hj
      obtain ⟨ee, ew⟩ := looks_same hok.nosel (hlook0 hpx)
      obtain ⟨op, v, hop, hv1, hv2, hv3⟩ := H.pend i hip hun
      have : op = o' := by rw [ho] at hop; exact (Option.some.inj hop).symm
      subst this
      have hfi : fs.contains i = false := by
        cases h : fs.contains i with
        | false => rfl
        | true => have := H.fresh i hip h; rw [hun] at this; cases this
      have next : ∀ w', Mem w [] w' → wpAny P .any l.toArray Q m (listed.setIfInBounds i true) (a.put op.dst v) w' := fun w' hw' => by
        refine any_of_core hB hnd hlt hin hAq hA m pre suf af L Lq E _ _ w' hleft ⟨H.ord, H.inv.set hi hin', by simpa using H.mem.call hw', fun e he => ?_, H.keys, H.sees, H.lin, by rw [put_size]; exact H.size, H.sizef, by rw [put_def]; exact H.defers, H.defersf, fun j hj hl => ?_, fun j hj hf => ?_, fun j hj hl => ?_, fun j d hj hl hjp hd => ?_, fun d hd => ?_, H.full⟩
        · obtain ⟨g1, g2, g3, g4, oe, t, z, b, g5, g6, g7, g8⟩ := H.ear e he
          have hei : e.1 ≠ i := fun e2 => by
            have hnd' := hnd
            rw [H.ord] at hnd'
            exact (List.nodup_append.1 hnd').2.2 i hip e.1 g1 e2.symm
          refine ⟨g1, by rw [getne _ hei]; exact g2, g3, g4, oe, t, z, b, g5, g6, g7, fun d hd => ?_⟩
          have := g8 d hd
          unfold slotIs at this ⊢
          rw [put_get _ _ _ _ (hone e.1 d (List.getElem?_eq_some_iff.1 g5).1 (by simp [dstAt, g5, hd]) hei)]
          exact this
        · by_cases hji : j = i
          · subst hji; exact .inl hip
          · exact H.sub j hj (by rw [← getne j hji]; exact hl)
        · rw [getne j (fun e => by subst e; rw [hfi] at hf; cases hf)]; exact H.fresh j hj hf
        · exact H.pend j hj (by rw [← getne j (fun e => by subst e; rw [geti] at hl; cases hl)]; exact hl)
        · by_cases hji : j = i
          · subst hji
            rw [hdi] at hd
            have h2 := hv1 d hd
            rw [hd]
            have h3 : slotIs a0.tmps.size d v (a.put (some d) v) := slotIs_put H.size
            unfold slotIs at h2 h3
            rw [h2, h3]
          · rw [getne j hji] at hl
            rw [put_get _ _ _ _ (hone j d hj hd hji)]
            exact H.done j d hj hl hjp hd
        · have h1 : op.dst ≠ some d := by
            have := hd i hin' geti
            rwa [hdi] at this
          rw [put_get _ _ _ _ h1]
          refine H.rest d fun j hj hl => ?_
          by_cases hji : j = i
          · subst hji; rw [hdi]; exact h1
          · exact hd j hj (by rw [getne j hji]; exact hl)
      unfold wpOp
      simp only [ho']
      rw [ew]
      split
      · rename_i hwt
        have h1 := hv2 hwt w (by
          split
          · exact hmL
          · exact H.sees w hmL)
        refine .inl ?_
        unfold Oper.wp
        rw [ee]
        unfold Oper.quietAt at h1
        generalize (execOp af.eval op).run P w = r at h1
        unfold Oper.quietUpon at h1
        split at h1
        · obtain ⟨rfl, rfl⟩ := h1; exact next _ (Mem.init _)
        · obtain ⟨rfl, e⟩ := h1; rw [e] at next; exact next _ (Mem.init _)
        · obtain ⟨rfl, hcal⟩ := h1
          exact hcal.mono fun e w'' ⟨he, hm⟩ => by subst he; exact next _ hm
        · exact h1.elim
      · rename_i hwt
        have := hv3 (by simpa using hwt)
        rw [this] at next
        exact next w (Mem.init _)
    · -- what is to be made next
      have his : i ∈ suf := by
        have := hin i hin'
        rw [H.ord] at this
        exact (List.mem_append.1 this).resolve_left hip
      rcases hsuf with rfl | ⟨f, r, rfl, hff, hfE⟩
      · cases his
      have hdone : ∀ (v : Value) (j d : Nat), j < l.length → (listed.setIfInBounds i true).getD j true = true → j ∈ pre → dstAt l j = some d → (a.put o'.dst v).tmps[d]? = af.tmps[d]? := fun v j d hj hl hjp hd => by
        have hji : j ≠ i := fun e => hip (e ▸ hjp)
        rw [getne j hji] at hl
        rw [put_get _ _ _ _ (hone j d hj hd hji)]
        exact H.done j d hj hl hjp hd
      have hrest : ∀ (v : Value) (d : Nat), (∀ j, j < l.length → (listed.setIfInBounds i true).getD j true = true → dstAt l j ≠ some d) → (a.put o'.dst v).tmps[d]? = a0.tmps[d]? := fun v d hd => by
        have h1 : o'.dst ≠ some d := by
          have := hd i hin' geti
          rwa [hdi] at this
        rw [put_get _ _ _ _ h1]
        refine H.rest d fun j hj hl => ?_
        by_cases hji : j = i
        · subst hji; rw [hdi]; exact h1
        · exact hd j hj (by rw [getne j hji]; exact hl)
      have hnE : i ∉ E.map (·.1) := fun h => by
        obtain ⟨e, he, rfl⟩ := List.mem_map.1 h
        have := (H.ear e he).2.1
        rw [hun] at this; cases this
      have hear : ∀ (v : Value), ∀ e ∈ E, Early P l fs a0.tmps.size (f :: r) (listed.setIfInBounds i true) (a.put o'.dst v) e := fun v e he => by
        obtain ⟨g1, g2, g3, g4, oe, t, z, b, g5, g6, g7, g8⟩ := H.ear e he
        have hei : e.1 ≠ i := fun e2 => hnE (e2 ▸ List.mem_map_of_mem he)
        refine ⟨g1, by rw [getne _ hei]; exact g2, g3, g4, oe, t, z, b, g5, g6, g7, fun d hd => ?_⟩
        have := g8 d hd
        unfold slotIs at this ⊢
        rw [put_get _ _ _ _ (hone e.1 d (List.getElem?_eq_some_iff.1 g5).1 (by simp [dstAt, g5, hd]) hei)]
        exact this
      by_cases hif : i = f
      · subst hif
        have hpx : ∀ j ∈ x, j ∈ pre := fun j hj => by
          have h1 := H.ord
          rw [hx] at h1
          have hnd1 := hnd
          rw [hx] at hnd1
          have h2 : x = pre := split_uniq (h1 ▸ hnd1) h1
          rw [← h2]; exact hj
        obtain ⟨ee, ew⟩ := looks_same hok.nosel (hlook0 hpx)
        obtain ⟨of, hof, hl⟩ := H.lin
        have : of = o' := by rw [ho] at hof; exact (Option.some.inj hof).symm
        subst this
        rw [if_pos hff] at hl
        have next : ∀ v w' E' L' Lq', E' = E → (∀ e ∈ E, e.1 ∈ r) → Mem w0 (E'.map (·.2) ++ L') w' → (∀ w, Mem w0 L' w → Mem w0 Lq' w) → (∀ w, Mem w0 Lq' w → Mem w0 Lq w) → (fs.contains (i + 2000) = true → ∀ w, Mem w0 L' w → Mem w0 L w) → Lin P l fs Q w0 r (af.put of.dst v) L' Lq' → wpAny P .any l.toArray Q m (listed.setIfInBounds i true) (a.put of.dst v) w' := fun v w' E' L' Lq' hEE hEr g1 g2 g3 gal g4 => by
          subst hEE
          refine any_of_core hB hnd hlt hin hAq hA m (pre ++ [i]) r (af.put of.dst v) L' Lq' E' _ _ w' hleft ⟨by rw [H.ord]; simp, H.inv.set hi hin', g1, fun e he => ?_, H.keys, g2, g4, by rw [put_size]; exact H.size, by rw [put_size]; exact H.sizef, by rw [put_def]; exact H.defers, by rw [put_def]; exact H.defersf, fun j hj hlj => ?_, fun j hj hf => ?_, fun j hj hlj => ?_, fun j d hj hlj hjp hd => ?_, hrest v, fun d hd => ?_⟩
          · obtain ⟨g1', g2'⟩ := hear v e he
            exact ⟨hEr e he, g2'⟩
          · by_cases hji : j = i
            · subst hji; exact .inl (by simp)
            · exact (H.sub j hj (by rw [← getne j hji]; exact hlj)).imp_left fun h => List.mem_append_left _ h
          · rcases List.mem_append.1 hj with h | h
            · by_cases hji : j = i
              · subst hji; exact geti
              · rw [getne j hji]; exact H.fresh j h hf
            · obtain rfl := List.mem_singleton.1 h; exact geti
          · rcases List.mem_append.1 hj with h | h
            · have hji : j ≠ i := fun e => hip (e ▸ h)
              cases htj : fs.contains (j + 1000) with
              | true =>
                cases hali : fs.contains (i + 2000) with
                | true =>
                  have hp := H.pend j h (by rw [← getne j hji]; exact hlj)
                  rw [htj] at hp
                  simp only [if_true] at hp ⊢
                  exact pend_put hB hnd hlt H.ord ho h (gal hali) hp
                | false =>
                  exfalso
                  obtain ⟨oi, hoi, hoki, -⟩ := linGo_spec ord [] [] hB pre i r H.ord
                  have e1 : oi = of := by rw [ho] at hoi; exact (Option.some.inj hoi).symm
                  subst e1
                  have hja := hoki.tmp hff j (by rw [List.append_nil, List.mem_reverse]; exact h) htj
                  have hjl := cert_listed hB hin H.inv i oi ho hdep j hja
                  have hjo : j ∈ ord := by rw [H.ord]; exact List.mem_append_left _ h
                  have := getD_tf (by have := hlt j hjo; omega) hjl
                  rw [getne j hji] at hlj
                  rw [this] at hlj; cases hlj
              | false =>
                have hp := H.pend j h (by rw [← getne j hji]; exact hlj)
                rw [htj] at hp
                simp only [Bool.false_eq_true, if_false] at hp ⊢
                exact pend_put hB hnd hlt H.ord ho h g3 hp
            · obtain rfl := List.mem_singleton.1 h
              rw [geti] at hlj; cases hlj
          · rcases List.mem_append.1 hjp with h | h
            · have hji : j ≠ i := fun e => hip (e ▸ h)
              rw [put_get _ _ _ _ (hone j d hj hd hji), put_get _ _ _ _ (hone j d hj hd hji)]
              rw [getne j hji] at hlj
              exact H.done j d hj hlj h hd
            · obtain rfl := List.mem_singleton.1 h
              rw [hdi] at hd
              rw [hd]
              have h3 : slotIs a0.tmps.size d v (a.put (some d) v) := slotIs_put H.size
              have h4 : slotIs a0.tmps.size d v (af.put (some d) v) := slotIs_put H.sizef
              unfold slotIs at h3 h4
              rw [h3, h4]
          · have h1 : of.dst ≠ some d := by
              have := hd i (by simp)
              rwa [hdi] at this
            rw [put_get _ _ _ _ h1]
            exact H.full d fun j hj => hd j (List.mem_append_left _ hj)
        have hEr : ∀ e ∈ E, e.1 ∈ r := fun e he => by
          have := (H.ear e he).1
          exact (List.mem_cons.1 this).resolve_left fun e2 => hnE (e2 ▸ List.mem_map_of_mem he)
        cases hali : fs.contains (i + 2000) with
        | true =>
          rw [if_pos hali] at hl
          obtain ⟨hg, t, z, hAl, hlin⟩ := hl
          unfold wpOp
          simp only [ho']
          rw [if_pos (by simp [Region.wanted, hg])]
          refine .inl ?_
          unfold Oper.wp
          rw [hAl]
          refine next _ _ E (blk w.heap.size z.cells t :: L) Lq rfl hEr ?_ (fun w hw => H.sees w (hw.sub (List.sublist_cons_self _ _))) (fun _ h => h) (fun _ w hw => hw.sub (List.sublist_cons_self _ _)) (hlin _)
          exact (H.mem.alloc z.cells t).perm (List.perm_middle.symm)
        | false =>
          rw [if_neg (by rw [hali]; exact Bool.false_ne_true)] at hl
          obtain ⟨hg, hrun⟩ := hl
          have hE0 : E = [] := List.eq_nil_iff_forall_not_mem.2 fun e he => by
            obtain ⟨oi, hoi, hoki, hry⟩ := linGo_spec ord [] [] hB pre i r H.ord
            have h1 := hry hff hali e.1 (hEr e he)
            rw [(H.ear e he).2.2.2.1] at h1; cases h1
          have h1 := hrun w hmL
          have next2 : ∀ v w', (∃ L' Lq', Mem w0 L' w' ∧ (∀ w, Mem w0 L' w → Mem w0 Lq' w) ∧ (∀ w, Mem w0 Lq' w → Mem w0 Lq w) ∧ Lin P l fs Q w0 r (af.put of.dst v) L' Lq') → wpAny P .any l.toArray Q m (listed.setIfInBounds i true) (a.put of.dst v) w' := fun v w' ⟨L', Lq', g1, g2, g3, g4⟩ =>
            next v w' E L' Lq' rfl hEr (by rw [hE0]; simpa using g1) g2 g3 (fun h => by rw [hali] at h; cases h) g4
          unfold wpOp
          simp only [ho']
          rw [if_pos (by rw [ew]; exact hg)]
          refine .inl ?_
          unfold Oper.wp
          rw [ee]
          generalize (execOp af.eval of).run P w = r' at h1
          unfold upon at h1
          split at h1
          · exact next2 _ _ h1
          · exact next2 _ _ h1
          · obtain ⟨rfl, hcal⟩ := h1
            exact hcal.mono fun e w'' ⟨u, he, hR⟩ => by subst he; exact next2 u _ hR
          · exact h1.elim
      · have hir : i ∈ r := (List.mem_cons.1 his).resolve_left hif
        cases hali : fs.contains (i + 2000) with
        | false =>
          exfalso
          obtain ⟨r1, r2, rfl⟩ := List.append_of_mem hir
          have hx' : ord = (pre ++ f :: r1) ++ i :: r2 := by rw [H.ord]; simp
          obtain ⟨oi, hoi, hoki, -⟩ := linGo_spec ord [] [] hB _ i r2 hx'
          have e1 : oi = o' := by rw [ho] at hoi; exact (Option.some.inj hoi).symm
          subst e1
          have hfa := hoki.anc hali f (by
            rw [List.append_nil, List.mem_reverse, List.mem_filter]
            exact ⟨by simp, hff⟩)
          have hfl := cert_listed hB hin H.inv i oi ho hdep f hfa
          have hf' : f ∈ ord := by rw [H.ord]; simp
          rcases H.sub f (hlt f hf') (getD_tf (by have := hlt f hf'; omega) hfl) with hfp | hfp
          · have hnd' := hnd
            rw [H.ord] at hnd'
            exact (List.nodup_append.1 hnd').2.2 f hfp f (by simp) rfl
          · exact hfE hfp
        | true =>
          -- a block that is made ahead of its place
          obtain ⟨oa, t, z, hoa, hga, hAl⟩ := hA i hali
          have e1 : oa = o' := by rw [ho] at hoa; exact (Option.some.inj hoa).symm
          subst e1
          have hfi : fs.contains i = true := by
            cases hfi : fs.contains i with
            | true => rfl
            | false =>
              exfalso
              -- quiet operations behind wait for those ahead
              obtain ⟨r1, r2, rfl⟩ := List.append_of_mem hir
              exact absurd hali (by rw [hAq i hfi]; exact Bool.false_ne_true)
          unfold wpOp
          simp only [ho']
          rw [if_pos (by simp [Region.wanted, hga])]
          refine .inl ?_
          unfold Oper.wp
          rw [hAl]
          refine any_of_core hB hnd hlt hin hAq hA m pre (f :: r) af L Lq ((i, blk w.heap.size z.cells t) :: E) _ _ _ hleft ⟨H.ord, H.inv.set hi hin', H.mem.alloc z.cells t, fun e he => ?_, List.nodup_cons.2 ⟨hnE, H.keys⟩, H.sees, H.lin, by rw [put_size]; exact H.size, H.sizef, by rw [put_def]; exact H.defers, H.defersf, fun j hj hl => ?_, fun j hj hf => ?_, fun j hj hl => ?_, hdone _, hrest _, H.full⟩
          · rcases List.mem_cons.1 he with rfl | he
            · exact ⟨his, geti, hfi, hali, oa, t, z, w.heap.size, ho, hAl, rfl, fun d hd => by rw [hd]; exact slotIs_put H.size⟩
            · exact hear _ e he
          · by_cases hji : j = i
            · subst hji; exact .inr (by simp)
            · exact (H.sub j hj (by rw [← getne j hji]; exact hl)).imp_right fun h => List.mem_cons_of_mem _ h
          · have hji : j ≠ i := fun e => hip (e ▸ hj)
            rw [getne j hji]; exact H.fresh j hj hf
          · have hji : j ≠ i := fun e => hip (e ▸ hj)
            exact H.pend j hj (by rw [← getne j hji]; exact hl)

theorem wp_region_lin2 {id : Nat} {ro : Option Nat} [Tame Q] {a : Act} {w : World} {L Lq : List Ent} (A : List (List Nat)) (ord : List Nat) (hnd : noDefer l = true) (hm : P.follows .mixedOrders = true) (hB : linB2 l fs A ord = true) (hC : Mem w0 L { w with drawn := w.drawn + 1 }) (hsub : ∀ w, Mem w0 L w → Mem w0 Lq w)
    (hAq : ∀ k, fs.contains k = false → fs.contains (k + 2000) = false) (hA : ∀ k, fs.contains (k + 2000) = true → ∃ o t z, l[k]? = some o ∧ o.guard = none ∧ IsAlloc P o t z)
    (h : Lin P l fs Q w0 ord a L Lq) : (Code.region id l.toArray true).wpIn (fen ro) 0 P Q a w := by
  simp only [linB2, Bool.and_eq_true, decide_eq_true_eq] at hB
  obtain ⟨⟨⟨h1, h2⟩, h3⟩, h4⟩ := hB
  have hin : ∀ j, j < l.length → j ∈ ord := fun j hj => by have := List.all_eq_true.1 h1 j (List.mem_range.2 hj); simpa using this
  have hlt : ∀ j ∈ ord, j < l.length := fun j hj => by have := List.all_eq_true.1 h3 j hj; simpa using this
  refine fen_region_any hnd hm ?_
  have inv0 : HeadInv .any l.toArray l.length (Array.replicate l.toArray.size false) :=
    ⟨by simp, fun j oj _ hl => (by rw [getD_replicate_false] at hl; cases hl), fun t h1 h2 => by simp at h2; omega⟩
  have hun : ∀ j, j < l.length → (Array.replicate l.toArray.size false).getD j true = false := fun j hj => by simp [hj]
  have hleft : left l.length (Array.replicate l.toArray.size false) = l.length := by
    unfold left
    rw [List.filter_eq_self.2 (fun j hj => ?_), List.length_range]
    rw [hun j (List.mem_range.1 hj)]; rfl
  have := any_of_core (P := P) (Q := Q) (w0 := w0) (a0 := a) h4 h2 hlt hin hAq hA l.length [] ord a L Lq [] (Array.replicate l.toArray.size false) a _ hleft
    ⟨rfl, inv0, hC, fun e he => (by cases he), List.nodup_nil, hsub, h, rfl, rfl, rfl, rfl, fun j hj hl => (by rw [hun j hj] at hl; cases hl), fun j hj => (by cases hj), fun j hj => (by cases hj), fun j d hj hl => (by rw [hun j hj] at hl; cases hl), fun _ _ => rfl, fun _ _ => rfl⟩
  simpa using this
theorem wp_region_lin {id : Nat} {ro : Option Nat} [Tame Q] {a : Act} {w : World} {L Lq : List Ent} (A : List (List Nat)) (ord : List Nat) (hnd : noDefer l = true) (hm : P.follows .mixedOrders = true) (hB : linB l fs A ord = true) (hC : Mem w0 L { w with drawn := w.drawn + 1 }) (hsub : ∀ w, Mem w0 L w → Mem w0 Lq w)
    (h : Lin P l fs Q w0 ord a L Lq) : (Code.region id l.toArray true).wpIn (fen ro) 0 P Q a w := by
  have h5 : ∀ k, fs.contains (k + 2000) = false := fun k => by
    simp only [linB, Bool.and_eq_true] at hB
    cases hk : fs.contains (k + 2000) with
    | false => rfl
    | true =>
      have := List.all_eq_true.1 hB.1.2 (k + 2000) (by simpa using hk)
      have := of_decide_eq_true this
      omega
  refine wp_region_lin2 A ord hnd hm ?_ hC hsub (fun k _ => h5 k) (fun k hk => by rw [h5 k] at hk; cases hk) h
  simp only [linB, linB2, Bool.and_eq_true] at hB ⊢
  exact ⟨hB.1.1, hB.2⟩
end
end Go.Eng
