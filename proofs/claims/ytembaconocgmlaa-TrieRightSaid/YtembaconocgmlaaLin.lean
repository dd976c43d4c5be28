/- A region that draws its order, told in one line: operations that only read and yield stand wherever; what makes or writes memory goes one behind the other. -/
import Derived.Test.YtembaconocgmlaaTail
set_option linter.unusedSimpArgs false
set_option linter.unusedVariables false
namespace Go.Eng
section
variable {P : Program} {l : List Oper} {Q : Exit → Act → World → Prop} {fs : List Nat} {w0 : World}

def upon (P : Program) (w : World) (R : Value → World → Prop) : Result Next → Prop
  | .ok (.value v) w' => R v w'
  | .ok .skip w' => R undef w'
  | .ok (.enter f args) w' => w' = w ∧ Calls P f args w fun e w'' => ∃ v, e = .returned v ∧ R v w''
  | _ => False

/-- The region's operations in the line ord. af: the frame of the line; Lq: the memory that quiet operations may still look at later. -/
def Lin (P : Program) (l : List Oper) (fs : List Nat) (Q : Exit → Act → World → Prop) (w0 : World) : List Nat → Act → List Ent → List Ent → Prop
  | [], af, L, _ => ∀ w, Mem w0 L w → Q .normal af w
  | k :: ord, af, L, Lq => ∃ o, l[k]? = some o ∧ (if fs.contains k = true then
      o.guard = none ∧ ∀ w, Mem w0 L w → upon P w (fun v w' => ∃ L' Lq', Mem w0 L' w' ∧ (∀ w, Mem w0 L' w → Mem w0 Lq' w) ∧ (∀ w, Mem w0 Lq' w → Mem w0 Lq w) ∧ Lin P l fs Q w0 ord (af.put o.dst v) L' Lq') ((execOp af.eval o).run P w)
    else ∃ v, (Region.wanted o (yielded l.toArray af.tmps) = true → quietR P o af (Mem w0 Lq) v) ∧ (Region.wanted o (yielded l.toArray af.tmps) = false → v = undef) ∧ Lin P l fs Q w0 ord (af.put o.dst v) L Lq)

def deps (o : Oper) : List Nat := (o.after.toList.filter fun e => Region.binds .any e).map (·.on)

/-- One operation of the line, behind prev, of which seen make or write. -/
def linOp (l : List Oper) (fs : List Nat) (A : List (List Nat)) (prev seen : List Nat) (k : Nat) (o : Oper) : Bool :=
  (match o.op with | .select .. => false | _ => true) &&
  ((deps o).all fun j => decide (j < k)) &&
  (seen.all fun f => (A.getD k []).contains f) &&
  ((A.getD k []).all fun f => (deps o).any fun j => j == f || (A.getD j []).contains f) &&
  ((List.range l.length).all fun j => match dstAt l j with
    | none => true
    | some d => (!(o.looksAt l.toArray).contains d || (prev.contains j && (deps o).contains j)) && (j == k || o.dst != some d))
def linGo (l : List Oper) (fs : List Nat) (A : List (List Nat)) : List Nat → List Nat → List Nat → Bool
  | _, _, [] => true
  | prev, seen, k :: ord => (match l[k]? with | none => false | some o => linOp l fs A prev seen k o) && linGo l fs A (k :: prev) (if fs.contains k then k :: seen else seen) ord
def linB (l : List Oper) (fs : List Nat) (A : List (List Nat)) (ord : List Nat) : Bool :=
  ((List.range l.length).all fun j => ord.contains j) && decide ord.Nodup && (ord.all fun j => decide (j < l.length)) && linGo l fs A [] [] ord

structure OpOk (l : List Oper) (fs : List Nat) (A : List (List Nat)) (prev seen : List Nat) (k : Nat) (o : Oper) : Prop where
  nosel : ∀ cs b, o.op ≠ .select cs b
  back : ∀ e ∈ o.after, Region.binds .any e = true → e.on < k
  anc : ∀ f ∈ seen, f ∈ A.getD k []
  cert : ∀ f ∈ A.getD k [], ∃ e ∈ o.after, Region.binds .any e = true ∧ (e.on = f ∨ f ∈ A.getD e.on [])
  reads : ∀ j d, j < l.length → dstAt l j = some d → d ∈ o.looksAt l.toArray → j ∈ prev ∧ ∃ e ∈ o.after, Region.binds .any e = true ∧ e.on = j
  one : ∀ j d, j < l.length → dstAt l j = some d → j ≠ k → o.dst ≠ some d

theorem mem_deps {o : Oper} {j : Nat} : j ∈ deps o ↔ ∃ e ∈ o.after, Region.binds .any e = true ∧ e.on = j := by
  unfold deps
  simp only [List.mem_map, List.mem_filter]
  constructor
  · rintro ⟨e, ⟨h1, h2⟩, h3⟩; exact ⟨e, by simpa using h1, h2, h3⟩
  · rintro ⟨e, h1, h2, h3⟩; exact ⟨e, ⟨by simpa using h1, h2⟩, h3⟩

theorem linOp_spec {A : List (List Nat)} {prev seen : List Nat} {k : Nat} {o : Oper} (h : linOp l fs A prev seen k o = true) : OpOk l fs A prev seen k o := by
  simp only [linOp, Bool.and_eq_true] at h
  obtain ⟨⟨⟨⟨h1, h2⟩, h3⟩, h4⟩, h5⟩ := h
  refine ⟨fun cs b e => by rw [e] at h1; simp at h1, fun e he hb => ?_, fun f hf => ?_, fun f hf => ?_, fun j d hj hd hl => ?_, fun j d hj hd hne => ?_⟩
  · have := List.all_eq_true.1 h2 e.on (mem_deps.2 ⟨e, he, hb, rfl⟩)
    simpa using this
  · have := List.all_eq_true.1 h3 f hf
    simpa using this
  · have := List.all_eq_true.1 h4 f hf
    obtain ⟨j, hj, hj2⟩ := List.any_eq_true.1 this
    obtain ⟨e, he, hb, rfl⟩ := mem_deps.1 hj
    exact ⟨e, he, hb, by simpa using hj2⟩
  · have := List.all_eq_true.1 h5 j (List.mem_range.2 hj)
    rw [hd] at this
    simp only [Bool.and_eq_true, Bool.or_eq_true, Bool.not_eq_true'] at this
    rcases this.1 with h6 | h6
    · exact absurd hl (by simpa using h6)
    · exact ⟨by simpa using h6.1, mem_deps.1 (by simpa using h6.2)⟩
  · have := List.all_eq_true.1 h5 j (List.mem_range.2 hj)
    rw [hd] at this
    simp only [Bool.and_eq_true, Bool.or_eq_true, beq_iff_eq] at this
    rcases this.2 with h6 | h6
    · exact absurd h6 hne
    · simpa using h6

/-- What is asked of each operation, by its place in the line. -/
theorem linGo_spec {A : List (List Nat)} : ∀ (ord prev seen : List Nat), linGo l fs A prev seen ord = true → ∀ (x : List Nat) (k : Nat) (y : List Nat), ord = x ++ k :: y →
    ∃ o, l[k]? = some o ∧ OpOk l fs A (x.reverse ++ prev) ((x.filter fun j => fs.contains j).reverse ++ seen) k o
  | [], _, _, _, x, k, y, e => by simp at e
  | k0 :: ord, prev, seen, h, x, k, y, e => by
    simp only [linGo, Bool.and_eq_true] at h
    cases x with
    | nil =>
      simp only [List.nil_append, List.cons.injEq] at e
      obtain ⟨rfl, rfl⟩ := e
      cases ho : l[k0]? with
      | none => rw [ho] at h; simp at h
      | some o => rw [ho] at h; exact ⟨o, rfl, by simpa using linOp_spec h.1⟩
    | cons x0 x =>
      simp only [List.cons_append, List.cons.injEq] at e
      obtain ⟨rfl, rfl⟩ := e
      obtain ⟨o, ho, hk⟩ := linGo_spec _ _ _ h.2 x k y rfl
      refine ⟨o, ho, ?_⟩
      have e1 : (k0 :: x).reverse ++ prev = x.reverse ++ (k0 :: prev) := by simp
      have e2 : (((k0 :: x).filter fun j => fs.contains j).reverse ++ seen) = (x.filter fun j => fs.contains j).reverse ++ (if fs.contains k0 then k0 :: seen else seen) := by
        cases hc : fs.contains k0 with
        | true =>
          rw [List.filter_cons, if_pos hc, List.reverse_cons, List.append_assoc]; rfl
        | false =>
          rw [List.filter_cons, if_neg (by rw [hc]; exact Bool.false_ne_true)]; rfl
      rw [e1, e2]; exact hk

def slotIs (N0 d : Nat) (v : Value) (a : Act) : Prop := a.tmps[d]? = if d < N0 then some v else none
theorem slotIs_put {N0 d : Nat} {v : Value} {a : Act} (h : a.tmps.size = N0) : slotIs N0 d v (a.put (some d) v) := by
  subst h
  unfold slotIs
  simp [Act.put, Array.getElem?_setIfInBounds]

/-- Operation k is still to come, and yields its part of the line's frame. -/
def Pend (P : Program) (l : List Oper) (w0 : World) (N0 k : Nat) (af : Act) (Lq : List Ent) : Prop :=
  ∃ o v, l[k]? = some o ∧ (∀ d, o.dst = some d → slotIs N0 d v af) ∧ (Region.wanted o (yielded l.toArray af.tmps) = true → quietR P o af (Mem w0 Lq) v) ∧ (Region.wanted o (yielded l.toArray af.tmps) = false → v = undef)

structure Core (P : Program) (l : List Oper) (fs : List Nat) (Q : Exit → Act → World → Prop) (w0 : World) (ord : List Nat) (a0 : Act) (pre suf : List Nat) (af : Act) (L Lq : List Ent) (listed : Array Bool) (a : Act) (w : World) : Prop where
  ord : ord = pre ++ suf
  inv : HeadInv .any l.toArray l.length listed
  mem : Mem w0 L w
  sees : ∀ w, Mem w0 L w → Mem w0 Lq w
  lin : Lin P l fs Q w0 suf af L Lq
  size : a.tmps.size = a0.tmps.size
  sizef : af.tmps.size = a0.tmps.size
  defers : a.defers = a0.defers
  defersf : af.defers = a0.defers
  sub : ∀ j, j < l.length → listed.getD j true = true → j ∈ pre
  fresh : ∀ j ∈ pre, fs.contains j = true → listed.getD j true = true
  pend : ∀ j ∈ pre, listed.getD j true = false → Pend P l w0 a0.tmps.size j af Lq
  done : ∀ j d, j < l.length → listed.getD j true = true → dstAt l j = some d → a.tmps[d]? = af.tmps[d]?
  rest : ∀ d, (∀ j, j < l.length → listed.getD j true = true → dstAt l j ≠ some d) → a.tmps[d]? = a0.tmps[d]?
  full : ∀ d, (∀ j ∈ pre, dstAt l j ≠ some d) → af.tmps[d]? = a0.tmps[d]?

variable {A : List (List Nat)} {ord : List Nat} {a0 : Act}

theorem looks_same {o : Oper} (hn : ∀ cs b, o.op ≠ .select cs b) {a b : Act} (h : ∀ t ∈ o.looksAt l.toArray, a.tmps[t]? = b.tmps[t]?) :
    execOp a.eval o = execOp b.eval o ∧ Region.wanted o (yielded l.toArray a.tmps) = Region.wanted o (yielded l.toArray b.tmps) :=
  ⟨execOp_congr o hn (eval_same h), wanted_same h⟩
theorem quietR_congr {o : Oper} {a b : Act} {C D : World → Prop} {v : Value} (e : execOp a.eval o = execOp b.eval o) (hD : ∀ w, D w → C w) (h : quietR P o a C v) : quietR P o b D v := fun w hw => by
  have := h w (hD w hw)
  unfold Oper.quietAt at this ⊢
  rw [← e]; exact this

/-- What is pending stays so when the line goes on by operation i. -/
theorem pend_put {pre suf : List Nat} {i k N0 : Nat} {af : Act} {Lq Lq' : List Ent} {oi : Oper} {u : Value} (hB : linGo l fs A [] [] ord = true) (hnd : ord.Nodup) (hlt : ∀ j ∈ ord, j < l.length) (ho : ord = pre ++ i :: suf) (hio : l[i]? = some oi) (hk : k ∈ pre) (hq : ∀ w, Mem w0 Lq' w → Mem w0 Lq w)
    (h : Pend P l w0 N0 k af Lq) : Pend P l w0 N0 k (af.put oi.dst u) Lq' := by
  obtain ⟨o, v, h1, h2, h3, h4⟩ := h
  obtain ⟨x, y, rfl⟩ := List.append_of_mem hk
  have ho' : ord = x ++ k :: (y ++ i :: suf) := by rw [ho]; simp
  obtain ⟨o', hko, hok⟩ := linGo_spec ord [] [] hB x k _ ho'
  have : o' = o := by rw [h1] at hko; exact (Option.some.inj hko).symm
  subst this
  have hil : i < l.length := (List.getElem?_eq_some_iff.1 hio).1
  have hdi : dstAt l i = oi.dst := by simp [dstAt, hio]
  have hik : i ≠ k := fun e => by
    subst e
    rw [ho'] at hnd
    have := (List.nodup_append.1 hnd).2.1
    exact (List.nodup_cons.1 this).1 (by simp)
  have hix : i ∉ x := fun hx => by
    rw [ho'] at hnd
    exact (List.nodup_append.1 hnd).2.2 i hx i (by simp) rfl
  have hlook : ∀ t ∈ o'.looksAt l.toArray, af.tmps[t]? = (af.put oi.dst u).tmps[t]? := fun t ht => by
    refine (put_get _ _ _ _ fun e => ?_).symm
    obtain ⟨hp, _⟩ := hok.reads i t hil (by rw [hdi]; exact e) ht
    rw [List.append_nil, List.mem_reverse] at hp
    exact hix hp
  obtain ⟨e1, e2⟩ := looks_same hok.nosel hlook
  refine ⟨o', v, h1, fun d hd => ?_, fun hw => quietR_congr e1 hq (h3 (by rw [e2]; exact hw)), fun hw => h4 (by rw [e2]; exact hw)⟩
  have := h2 d hd
  unfold slotIs at this ⊢
  rw [put_get _ _ _ _ fun e => ?_]
  · exact this
  · exact hok.one i d hil (by rw [hdi]; exact e) hik hd

/-- The line goes on as far as the next operation that makes or writes. -/
theorem core_adv (hB : linGo l fs A [] [] ord = true) (hnd : ord.Nodup) (hlt : ∀ j ∈ ord, j < l.length) : ∀ (suf pre : List Nat) (af : Act) {L Lq : List Ent} {listed : Array Bool} {a : Act} {w : World}, Core P l fs Q w0 ord a0 pre suf af L Lq listed a w →
    ∃ pre' suf' af', Core P l fs Q w0 ord a0 pre' suf' af' L Lq listed a w ∧ (suf' = [] ∨ ∃ f r, suf' = f :: r ∧ fs.contains f = true)
  | [], pre, af, _, _, _, _, _, H => ⟨pre, [], af, H, .inl rfl⟩
  | k :: suf, pre, af, L, Lq, listed, a, w, H => by
    cases hf : fs.contains k with
    | true => exact ⟨pre, k :: suf, af, H, .inr ⟨k, suf, rfl, hf⟩⟩
    | false =>
      obtain ⟨o, hko, hl⟩ := H.lin
      rw [if_neg (by rw [hf]; exact Bool.false_ne_true)] at hl
      obtain ⟨v, h1, h2, h3⟩ := hl
      obtain ⟨o', hko', hok⟩ := linGo_spec ord [] [] hB pre k suf H.ord
      have : o' = o := by rw [hko] at hko'; exact (Option.some.inj hko').symm
      subst this
      have hkl : k < l.length := (List.getElem?_eq_some_iff.1 hko).1
      have hdk : dstAt l k = o'.dst := by simp [dstAt, hko]
      have hkp : k ∉ pre := fun h => by
        have hnd' := hnd
        rw [H.ord] at hnd'
        exact (List.nodup_append.1 hnd').2.2 k h k (by simp) rfl
      have hun : ∀ j, j ∈ pre → j ≠ k := fun j hj e => hkp (e ▸ hj)
      have hlook : ∀ t ∈ o'.looksAt l.toArray, af.tmps[t]? = (af.put o'.dst v).tmps[t]? := fun t ht => by
        refine (put_get _ _ _ _ fun e => ?_).symm
        obtain ⟨hp, _⟩ := hok.reads k t hkl (by rw [hdk]; exact e) ht
        rw [List.append_nil, List.mem_reverse] at hp
        exact hkp hp
      obtain ⟨e1, e2⟩ := looks_same hok.nosel hlook
      refine core_adv hB hnd hlt suf (pre ++ [k]) (af.put o'.dst v) ⟨by rw [H.ord]; simp, H.inv, H.mem, H.sees, h3, H.size, by rw [put_size]; exact H.sizef, H.defers, by rw [put_def]; exact H.defersf, fun j hj hl => List.mem_append_left _ (H.sub j hj hl), fun j hj hf' => ?_, fun j hj hl => ?_, fun j d hj hl hd => ?_, H.rest, fun d hd => ?_⟩
      · rcases List.mem_append.1 hj with h | h
        · exact H.fresh j h hf'
        · obtain rfl := List.mem_singleton.1 h
          rw [hf] at hf'; cases hf'
      · rcases List.mem_append.1 hj with h | h
        · exact pend_put hB hnd hlt H.ord hko h (fun _ h => h) (H.pend j h hl)
        · obtain rfl := List.mem_singleton.1 h
          refine ⟨o', v, hko, fun d hd => by rw [hd]; exact slotIs_put H.sizef, fun hw => quietR_congr e1 (fun _ h => h) (h1 (by rw [e2]; exact hw)), fun hw => h2 (by rw [e2]; exact hw)⟩
      · rw [put_get _ _ _ _ (hok.one j d hj hd (hun j (H.sub j hj hl)))]
        exact H.done j d hj hl hd
      · rw [put_get _ _ _ _ (by have := hd k (by simp); rwa [hdk] at this)]
        exact H.full d fun j hj => hd j (List.mem_append_left _ hj)

/-- The certificate of what stands ahead. -/
theorem cert_listed {listed : Array Bool} (hB : linGo l fs A [] [] ord = true) (hin : ∀ j, j < l.length → j ∈ ord) (inv : HeadInv .any l.toArray l.length listed) : ∀ (k : Nat) (o : Oper), l[k]? = some o → (∀ e ∈ o.after, Region.binds .any e = true → listed.getD e.on false = true) →
    ∀ f ∈ A.getD k [], listed.getD f false = true := by
  intro k
  induction k using Nat.strongRecOn with
  | _ k ih =>
    intro o hko hd f hf
    obtain ⟨x, y, hx⟩ := List.append_of_mem (hin k (List.getElem?_eq_some_iff.1 hko).1)
    obtain ⟨o', hko', hok⟩ := linGo_spec ord [] [] hB x k y hx
    have : o' = o := by rw [hko] at hko'; exact (Option.some.inj hko').symm
    subst this
    obtain ⟨e, he, hb, h⟩ := hok.cert f hf
    have hl := hd e he hb
    rcases h with rfl | h
    · exact hl
    · have hlt := hok.back e he hb
      have hel : e.on < l.length := by have := (List.getElem?_eq_some_iff.1 hko).1; omega
      exact ih e.on hlt l[e.on] (by simp [hel]) (inv.closed e.on _ (by simp [hel]) hl) f h

theorem getD_tf {listed : Array Bool} {i : Nat} (hi : i < listed.size) (h : listed.getD i false = true) : listed.getD i true = true := by
  simp [hi] at h ⊢; exact h

theorem any_of_core (hB : linGo l fs A [] [] ord = true) (hnd : ord.Nodup) (hlt : ∀ j ∈ ord, j < l.length) (hin : ∀ j, j < l.length → j ∈ ord) :
    ∀ (m : Nat) (pre suf : List Nat) (af : Act) (L Lq : List Ent) (listed : Array Bool) (a : Act) (w : World), left l.length listed = m → Core P l fs Q w0 ord a0 pre suf af L Lq listed a w → wpAny P .any l.toArray Q m listed a w
  | 0, pre, suf, af, L, Lq, listed, a, w, hm, H => by
    have hall : ∀ j, j < l.length → listed.getD j true = true := fun j hj => by
      cases h : listed.getD j true with
      | true => rfl
      | false =>
        have : j ∈ (List.range l.length).filter fun i => !listed.getD i true := List.mem_filter.2 ⟨List.mem_range.2 hj, by rw [h]; rfl⟩
        rw [List.length_eq_zero_iff.1 hm] at this
        cases this
    have hr : Region.ready .any l.toArray listed = [] := by
      refine List.eq_nil_iff_forall_not_mem.2 fun i hi => ?_
      obtain ⟨h1, o, h2, _⟩ := mem_ready.1 hi
      rw [hall i (by have := (Array.getElem?_eq_some_iff.1 h2).1; simpa using this)] at h1; cases h1
    have hsuf : suf = [] := by
      cases hs : suf with
      | nil => rfl
      | cons k r =>
        have hk : k ∈ ord := by rw [H.ord, hs]; simp
        have := H.sub k (hlt k hk) (hall k (hlt k hk))
        have hnd' := hnd
        rw [H.ord, hs] at hnd'
        exact absurd rfl ((List.nodup_append.1 hnd').2.2 k this k (by simp))
    have hlin := H.lin
    rw [hsuf] at hlin
    have e1 : a = af := by
      have : a.tmps = af.tmps := by
        apply Array.ext_getElem?
        intro d
        by_cases hw : ∃ j, j < l.length ∧ dstAt l j = some d
        · obtain ⟨j, hj, hd⟩ := hw
          exact H.done j d hj (hall j hj) hd
        · have h1 : ∀ j, j < l.length → dstAt l j ≠ some d := fun j hj hd => hw ⟨j, hj, hd⟩
          rw [H.rest d fun j hj _ => h1 j hj, H.full d fun j hj => h1 j (hlt j (by rw [H.ord]; exact List.mem_append_left _ hj))]
      have h2 : a.defers = af.defers := by rw [H.defers, H.defersf]
      cases a; cases af
      simp_all
    subst e1
    exact ⟨hr, hlin w H.mem⟩
  | m + 1, pre0, suf0, af0, L, Lq, listed, a, w, hm, H0 => by
    obtain ⟨pre, suf, af, H, hsuf⟩ := core_adv hB hnd hlt suf0 pre0 af0 H0
    obtain ⟨i0, hi0, hun0, hmin⟩ : ∃ i, i < l.length ∧ listed.getD i true = false ∧ ∀ j, j < i → listed.getD j true = true := by
      have hne : ∃ i, i < l.length ∧ listed.getD i true = false := by
        cases hf : (List.range l.length).filter fun i => !listed.getD i true with
        | nil => rw [left, hf] at hm; cases hm
        | cons i r =>
          have : i ∈ (List.range l.length).filter fun i => !listed.getD i true := by rw [hf]; simp
          obtain ⟨h1, h2⟩ := List.mem_filter.1 this
          exact ⟨i, List.mem_range.1 h1, by simpa using h2⟩
      obtain ⟨i, h1, h2⟩ := hne
      induction i using Nat.strongRecOn with
      | _ i ih =>
        by_cases h : ∃ j, j < i ∧ listed.getD j true = false
        · obtain ⟨j, hj, hj2⟩ := h
          exact ih j hj (by omega) hj2
        · refine ⟨i, h1, h2, fun j hj => ?_⟩
          cases hh : listed.getD j true with
          | true => rfl
          | false => exact absurd ⟨j, hj, hh⟩ h
    have hsz : listed.size = l.length := by simpa using H.inv.size
    have ok : ∀ k, k < l.length → ∃ x y o, ord = x ++ k :: y ∧ l[k]? = some o ∧ OpOk l fs A (x.reverse ++ []) ((x.filter fun j => fs.contains j).reverse ++ []) k o := fun k hk => by
      obtain ⟨x, y, hx⟩ := List.append_of_mem (hin k hk)
      obtain ⟨o, ho, hok⟩ := linGo_spec ord [] [] hB x k y hx
      exact ⟨x, y, o, hx, ho, hok⟩
    have hready : i0 ∈ Region.ready .any l.toArray listed := by
      obtain ⟨x, y, o, _, ho, hok⟩ := ok i0 hi0
      refine mem_ready.2 ⟨hun0, o, by simpa using ho, fun e he hb => ?_⟩
      have h1 := hok.back e he hb
      have h2 := hmin e.on h1
      have h3 : e.on < listed.size := by omega
      simp [h3] at h2 ⊢; exact h2
    refine ⟨fun h => (by rw [h] at hready; cases hready), fun i hi => ?_⟩
    obtain ⟨hun, o', ho', hdep⟩ := mem_ready.1 hi
    have hin' : i < l.length := by have := (Array.getElem?_eq_some_iff.1 ho').1; simpa using this
    obtain ⟨x, y, o, hx, ho, hok⟩ := ok i hin'
    have : o' = o := by simpa [ho] using ho'.symm
    subst this
    have hleft : left l.length (listed.setIfInBounds i true) = m := by have := left_set hin' hun; omega
    have hdi : dstAt l i = o'.dst := by simp [dstAt, ho]
    have getne : ∀ j, j ≠ i → (listed.setIfInBounds i true).getD j true = listed.getD j true := fun j hji => getD_set_ne true (Ne.symm hji)
    have geti : (listed.setIfInBounds i true).getD i true = true := by simp [show i < listed.size by omega]
    have hone : ∀ j d, j < l.length → dstAt l j = some d → j ≠ i → o'.dst ≠ some d := hok.one
    have hlook : ∀ t ∈ o'.looksAt l.toArray, a.tmps[t]? = af.tmps[t]? := fun t ht => by
      by_cases hw : ∃ j, j < l.length ∧ dstAt l j = some t
      · obtain ⟨j, hj, hd⟩ := hw
        obtain ⟨_, e, he, hb, hon⟩ := hok.reads j t hj hd ht
        have hl := hdep e he hb
        rw [hon] at hl
        exact H.done j t hj (getD_tf (by omega) hl) hd
      · have h1 : ∀ j, j < l.length → dstAt l j ≠ some t := fun j hj hd => hw ⟨j, hj, hd⟩
        rw [H.rest t fun j hj _ => h1 j hj, H.full t fun j hj => h1 j (hlt j (by rw [H.ord]; exact List.mem_append_left _ hj))]
    obtain ⟨ee, ew⟩ := looks_same hok.nosel hlook
    by_cases hip : i ∈ pre
    · -- a quiet operation
      obtain ⟨op, v, hop, hv1, hv2, hv3⟩ := H.pend i hip hun
      have : op = o' := by rw [ho] at hop; exact (Option.some.inj hop).symm
      subst this
      have hfi : fs.contains i = false := by
        cases h : fs.contains i with
        | false => rfl
        | true => have := H.fresh i hip h; rw [hun] at this; cases this
      have next : ∀ w', Mem w [] w' → wpAny P .any l.toArray Q m (listed.setIfInBounds i true) (a.put op.dst v) w' := fun w' hw' => by
        refine any_of_core hB hnd hlt hin m pre suf af L Lq _ _ w' hleft ⟨H.ord, H.inv.set hi hin', by simpa using H.mem.call hw', H.sees, H.lin, by rw [put_size]; exact H.size, H.sizef, by rw [put_def]; exact H.defers, H.defersf, fun j hj hl => ?_, fun j hj hf => ?_, fun j hj hl => ?_, fun j d hj hl hd => ?_, fun d hd => ?_, H.full⟩
        · by_cases hji : j = i
          · subst hji; exact hip
          · exact H.sub j hj (by rw [← getne j hji]; exact hl)
        · rw [getne j (fun e => by subst e; rw [hfi] at hf; cases hf)]; exact H.fresh j hj hf
        · exact H.pend j hj (by rw [← getne j (fun e => by subst e; rw [geti] at hl; cases hl)]; exact hl)
        · by_cases hji : j = i
          · subst hji
            rw [hdi] at hd
            have h2 := hv1 d hd
            rw [hd]
            have h3 : slotIs a0.tmps.size d v (a.put (some d) v) := slotIs_put H.size
            unfold slotIs at h2 h3
            rw [h2, h3]
          · rw [getne j hji] at hl
            rw [put_get _ _ _ _ (hone j d hj hd hji)]
            exact H.done j d hj hl hd
        · have h1 : op.dst ≠ some d := by
            have := hd i hin' geti
            rwa [hdi] at this
          rw [put_get _ _ _ _ h1]
          refine H.rest d fun j hj hl => ?_
          by_cases hji : j = i
          · subst hji; rw [hdi]; exact h1
          · exact hd j hj (by rw [getne j hji]; exact hl)
      unfold wpOp
      simp only [ho']
      rw [ew]
      split
      · rename_i hwt
        have h1 := hv2 hwt w (H.sees w H.mem)
        refine .inl ?_
        unfold Oper.wp
        rw [ee]
        unfold Oper.quietAt at h1
        generalize (execOp af.eval op).run P w = r at h1
        unfold Oper.quietUpon at h1
        split at h1
        · obtain ⟨rfl, rfl⟩ := h1; exact next _ (Mem.init _)
        · obtain ⟨rfl, e⟩ := h1; rw [e] at next; exact next _ (Mem.init _)
        · obtain ⟨rfl, hcal⟩ := h1
          exact hcal.mono fun e w'' ⟨he, hm⟩ => by subst he; exact next _ hm
        · exact h1.elim
      · rename_i hwt
        have := hv3 (by simpa using hwt)
        rw [this] at next
        exact next w (Mem.init _)
    · -- what is to be made next
      have his : i ∈ suf := by
        have := hin i hin'
        rw [H.ord] at this
        exact (List.mem_append.1 this).resolve_left hip
      rcases hsuf with rfl | ⟨f, r, rfl, hff⟩
      · cases his
      have hif : i = f := by
        rcases List.mem_cons.1 his with h | h
        · exact h
        · exfalso
          obtain ⟨r1, r2, rfl⟩ := List.append_of_mem h
          have hx' : ord = (pre ++ f :: r1) ++ i :: r2 := by rw [H.ord]; simp
          obtain ⟨oi, hoi, hoki⟩ := linGo_spec ord [] [] hB _ i r2 hx'
          have e1 : oi = o' := by rw [ho] at hoi; exact (Option.some.inj hoi).symm
          subst e1
          have hfa := hoki.anc f (by
            rw [List.append_nil, List.mem_reverse, List.mem_filter]
            exact ⟨by simp, hff⟩)
          have hfl := cert_listed hB hin H.inv i oi ho hdep f hfa
          have hf' : f ∈ ord := by rw [H.ord]; simp
          have hfp := H.sub f (hlt f hf') (getD_tf (by have := hlt f hf'; omega) hfl)
          have hnd' := hnd
          rw [H.ord] at hnd'
          exact (List.nodup_append.1 hnd').2.2 f hfp f (by simp) rfl
      subst hif
      obtain ⟨of, hof, hl⟩ := H.lin
      have : of = o' := by rw [ho] at hof; exact (Option.some.inj hof).symm
      subst this
      rw [if_pos hff] at hl
      obtain ⟨hg, hrun⟩ := hl
      have h1 := hrun w H.mem
      have next : ∀ v w', (∃ L' Lq', Mem w0 L' w' ∧ (∀ w, Mem w0 L' w → Mem w0 Lq' w) ∧ (∀ w, Mem w0 Lq' w → Mem w0 Lq w) ∧ Lin P l fs Q w0 r (af.put of.dst v) L' Lq') → wpAny P .any l.toArray Q m (listed.setIfInBounds i true) (a.put of.dst v) w' := fun v w' ⟨L', Lq', g1, g2, g3, g4⟩ => by
        refine any_of_core hB hnd hlt hin m (pre ++ [i]) r (af.put of.dst v) L' Lq' _ _ w' hleft ⟨by rw [H.ord]; simp, H.inv.set hi hin', g1, g2, g4, by rw [put_size]; exact H.size, by rw [put_size]; exact H.sizef, by rw [put_def]; exact H.defers, by rw [put_def]; exact H.defersf, fun j hj hl => ?_, fun j hj hf => ?_, fun j hj hl => ?_, fun j d hj hl hd => ?_, fun d hd => ?_, fun d hd => ?_⟩
        · by_cases hji : j = i
          · subst hji; simp
          · exact List.mem_append_left _ (H.sub j hj (by rw [← getne j hji]; exact hl))
        · rcases List.mem_append.1 hj with h | h
          · by_cases hji : j = i
            · subst hji; exact geti
            · rw [getne j hji]; exact H.fresh j h hf
          · obtain rfl := List.mem_singleton.1 h; exact geti
        · rcases List.mem_append.1 hj with h | h
          · have hji : j ≠ i := fun e => hip (e ▸ h)
            exact pend_put hB hnd hlt H.ord ho h g3 (H.pend j h (by rw [← getne j hji]; exact hl))
          · obtain rfl := List.mem_singleton.1 h
            rw [geti] at hl; cases hl
        · by_cases hji : j = i
          · subst hji
            rw [hdi] at hd
            rw [hd]
            have h3 : slotIs a0.tmps.size d v (a.put (some d) v) := slotIs_put H.size
            have h4 : slotIs a0.tmps.size d v (af.put (some d) v) := slotIs_put H.sizef
            unfold slotIs at h3 h4
            rw [h3, h4]
          · rw [getne j hji] at hl
            rw [put_get _ _ _ _ (hone j d hj hd hji), put_get _ _ _ _ (hone j d hj hd hji)]
            exact H.done j d hj hl hd
        · have h1 : of.dst ≠ some d := by
            have := hd i hin' geti
            rwa [hdi] at this
          rw [put_get _ _ _ _ h1]
          refine H.rest d fun j hj hl => ?_
          by_cases hji : j = i
          · subst hji; rw [hdi]; exact h1
          · exact hd j hj (by rw [getne j hji]; exact hl)
        · have h1 : of.dst ≠ some d := by
            have := hd i (by simp)
            rwa [hdi] at this
          rw [put_get _ _ _ _ h1]
          exact H.full d fun j hj => hd j (List.mem_append_left _ hj)
      unfold wpOp
      simp only [ho']
      rw [if_pos (by simp [Region.wanted, hg])]
      refine .inl ?_
      unfold Oper.wp
      rw [ee]
      generalize (execOp af.eval of).run P w = r' at h1
      unfold upon at h1
      split at h1
      · exact next _ _ h1
      · exact next _ _ h1
      · obtain ⟨rfl, hcal⟩ := h1
        exact hcal.mono fun e w'' ⟨u, he, hR⟩ => by subst he; exact next u _ hR
      · exact h1.elim

theorem wp_region_lin {id : Nat} {ro : Option Nat} [Tame Q] {a : Act} {w : World} {L Lq : List Ent} (A : List (List Nat)) (ord : List Nat) (hnd : noDefer l = true) (hm : P.follows .mixedOrders = true) (hB : linB l fs A ord = true) (hC : Mem w0 L { w with drawn := w.drawn + 1 }) (hsub : ∀ w, Mem w0 L w → Mem w0 Lq w)
    (h : Lin P l fs Q w0 ord a L Lq) : (Code.region id l.toArray true).wpIn (fen ro) 0 P Q a w := by
  simp only [linB, Bool.and_eq_true, decide_eq_true_eq] at hB
  obtain ⟨⟨⟨h1, h2⟩, h3⟩, h4⟩ := hB
  have hin : ∀ j, j < l.length → j ∈ ord := fun j hj => by have := List.all_eq_true.1 h1 j (List.mem_range.2 hj); simpa using this
  have hlt : ∀ j ∈ ord, j < l.length := fun j hj => by have := List.all_eq_true.1 h3 j hj; simpa using this
  refine fen_region_any hnd hm ?_
  have inv0 : HeadInv .any l.toArray l.length (Array.replicate l.toArray.size false) :=
    ⟨by simp, fun j oj _ hl => (by rw [getD_replicate_false] at hl; cases hl), fun t h1 h2 => by simp at h2; omega⟩
  have hun : ∀ j, j < l.length → (Array.replicate l.toArray.size false).getD j true = false := fun j hj => by simp [hj]
  have hleft : left l.length (Array.replicate l.toArray.size false) = l.length := by
    unfold left
    rw [List.filter_eq_self.2 (fun j hj => ?_), List.length_range]
    rw [hun j (List.mem_range.1 hj)]; rfl
  have := any_of_core (P := P) (Q := Q) (w0 := w0) (a0 := a) h4 h2 hlt hin l.length [] ord a L Lq (Array.replicate l.toArray.size false) a _ hleft
    ⟨rfl, inv0, hC, hsub, h, rfl, rfl, rfl, rfl, fun j hj hl => (by rw [hun j hj] at hl; cases hl), fun j hj => (by cases hj), fun j hj => (by cases hj), fun j d hj hl => (by rw [hun j hj] at hl; cases hl), fun _ _ => rfl, fun _ _ => rfl⟩
  simpa using this
end
end Go.Eng
