/- Memory told by the blocks that a call itself has made. -/
import Derived.WalkKit
import Derived.Deep.Quiet
import Derived.Laws.CopyRow
set_option linter.unusedSimpArgs false
set_option linter.unusedVariables false
namespace Go.Eng
open Go.RowKit

/-! Memory. -/

structure Ent where
  fp : Nat → Prop
  sat : (Nat → Option Obj) → Prop
  loc : ∀ h h' : Nat → Option Obj, (∀ k, fp k → h' k = h k) → sat h → sat h'

/-- One block of cells, known whole. -/
def blk (b : Nat) (cs : Array Value) (T : TypeId) : Ent := ⟨fun k => k = b, fun h => h b = some (.cells cs T (0, 0)), fun _ _ e s => by rw [e b rfl]; exact s⟩

structure Mem (w0 : World) (L : List Ent) (w : World) : Prop where
  below : Below w0.heap.size w0 w
  sat : ∀ e ∈ L, e.sat fun k => w.heap[k]?
  dom : ∀ e ∈ L, ∀ k, e.fp k → w0.heap.size ≤ k ∧ k < w.heap.size
  dis : L.Pairwise fun a b => ∀ k, a.fp k → ¬ b.fp k

theorem Mem.init (w : World) : Mem w [] w := ⟨Below.refl _ _, by simp, by simp, by simp⟩
theorem Mem.of_below {w w' : World} (h : Below w.heap.size w w') : Mem w [] w' := ⟨h, by simp, by simp, by simp⟩

theorem Mem.le {w0 : World} {L : List Ent} {w : World} (h : Mem w0 L w) : w0.heap.size ≤ w.heap.size := h.below.size

/-- What a call that made E leaves. -/
theorem Mem.call {w0 : World} {L E : List Ent} {w w' : World} (h : Mem w0 L w) (h' : Mem w E w') : Mem w0 (E ++ L) w' := by
  refine ⟨h.below.trans (h'.below.mono h.le), fun e he => ?_, fun e he k hk => ?_, ?_⟩
  · rcases List.mem_append.1 he with he | he
    · exact h'.sat e he
    · exact e.loc _ _ (fun k hk => h'.below.block k (h.dom e he k hk).2) (h.sat e he)
  · rcases List.mem_append.1 he with he | he
    · have := h'.dom e he k hk; have := h.le; omega
    · have := h.dom e he k hk; have := h'.below.size; omega
  · refine List.pairwise_append.2 ⟨h'.dis, h.dis, fun a ha b hb k hk hk' => ?_⟩
    have := h'.dom a ha k hk; have := h.dom b hb k hk'; omega

theorem Mem.step {w0 : World} {L : List Ent} {w w' : World} (h : Mem w0 L w) (h' : Below w.heap.size w w') : Mem w0 L w' := h.call (E := []) (.of_below h')

theorem Mem.drew {w0 : World} {L : List Ent} {w : World} (h : Mem w0 L w) : Mem w0 L w.drew := h.step ((Below.refl _ _).drew)
theorem Mem.drew' {w0 : World} {L : List Ent} {w : World} (h : Mem w0 L w) : Mem w0 L { w with drawn := w.drawn + 1 } := h.step ((Below.refl _ _).drew)

theorem Mem.sub {w0 : World} {L L' : List Ent} {w : World} (h : Mem w0 L w) (s : L'.Sublist L) : Mem w0 L' w :=
  ⟨h.below, fun e he => h.sat e (s.subset he), fun e he => h.dom e (s.subset he), h.dis.sublist s⟩

theorem Mem.perm {w0 : World} {L L' : List Ent} {w : World} (h : Mem w0 L w) (s : L.Perm L') : Mem w0 L' w :=
  ⟨h.below, fun e he => h.sat e (s.mem_iff.2 he), fun e he => h.dom e (s.mem_iff.2 he), s.pairwise h.dis (fun hab k hk hk' => hab k hk' hk)⟩

theorem Mem.get {w0 : World} {L : List Ent} {w : World} (h : Mem w0 L w) {i : Nat} {e : Ent} (hi : L[i]? = some e) : e.sat fun k => w.heap[k]? := h.sat e (List.mem_of_getElem? hi)

theorem Below.heap_new (w : World) (o : Obj) : (w.alloc o).heap[w.heap.size]? = some o := by
  show (w.heap.push o)[w.heap.size]? = some o
  simp

theorem Mem.alloc {w0 : World} {L : List Ent} {w : World} (h : Mem w0 L w) (cs : Array Value) (T : TypeId) : Mem w0 (blk w.heap.size cs T :: L) (w.alloc (.cells cs T)) := by
  refine h.call (E := [blk w.heap.size cs T]) ⟨(Below.refl _ _).alloc (Nat.le_refl _) _, fun e he => ?_, fun e he k hk => ?_, by simp⟩
  · simp at he; subst he
    exact Below.heap_new w _
  · simp at he; subst he
    have : k = w.heap.size := hk
    subst this; simp

/-- Entry i replaced, in one block of its own. -/
theorem Mem.change {w0 : World} {L : List Ent} {w w' : World} (h : Mem w0 L w) {i : Nat} {e e' : Ent} (hi : L[i]? = some e) (hfp : ∀ k, e'.fp k → e.fp k)
    (hB : ∀ k, ¬ e.fp k → w'.heap[k]? = w.heap[k]?) (hs : w'.heap.size = w.heap.size) (ho : w'.os = w.os ∧ w'.tape = w.tape ∧ w'.output = w.output)
    (hsat : e'.sat fun k => w'.heap[k]?) : Mem w0 (L.set i e') w' := by
  have hilt : i < L.length := by
    rcases Nat.lt_or_ge i L.length with h' | h'
    · exact h'
    · simp [List.getElem?_eq_none h'] at hi
  have hie : L[i] = e := by simpa [List.getElem?_eq_getElem hilt] using hi
  have hem : e ∈ L := hie ▸ List.getElem_mem hilt
  refine ⟨⟨ho.1.trans h.below.os, ho.2.1.trans h.below.tape, ho.2.2.trans h.below.output, hs ▸ h.below.size, fun k hk => ?_⟩, fun x hx => ?_, fun x hx k hk => ?_, ?_⟩
  · rw [hB k (fun hf => by have := h.dom e hem k hf; omega)]; exact h.below.block k hk
  · obtain ⟨j, hj, hjx⟩ := List.getElem_of_mem hx
    rw [List.getElem_set] at hjx
    split at hjx
    · subst hjx; exact hsat
    · rename_i hne
      have hjl : j < L.length := by simpa using hj
      subst hjx
      have hd := h.dis
      rw [List.pairwise_iff_getElem] at hd
      refine (L[j]).loc _ _ (fun k hk => hB k (fun hf => ?_)) (h.sat _ (List.getElem_mem hjl))
      rw [← hie] at hf
      rcases Nat.lt_or_gt_of_ne hne with hlt | hlt
      · exact hd i j hilt hjl hlt k hf hk
      · exact hd j i hjl hilt hlt k hk hf
  · rw [hs]
    obtain ⟨j, hj, hjx⟩ := List.getElem_of_mem hx
    rw [List.getElem_set] at hjx
    split at hjx
    · subst hjx; exact h.dom e hem k (hfp k hk)
    · subst hjx; exact h.dom _ (List.getElem_mem _) k hk
  · rw [List.pairwise_iff_getElem]
    intro p q hp hq hpq k hk hk'
    have hd := h.dis
    rw [List.pairwise_iff_getElem] at hd
    rw [List.getElem_set] at hk hk'
    have hpl : p < L.length := by simpa using hp
    have hql : q < L.length := by simpa using hq
    have := hd p q hpl hql hpq k
    split at hk <;> split at hk'
    · omega
    · rename_i h1 h2
      subst h1
      exact this (by rw [hie]; exact hfp k hk) hk'
    · rename_i h1 h2
      subst h2
      exact this hk (by rw [hie]; exact hfp k hk')
    · exact this hk hk'

theorem Mem.cell {w0 : World} {L : List Ent} {w : World} (h : Mem w0 L w) {i b : Nat} {cs : Array Value} {T : TypeId} (hi : L[i]? = some (blk b cs T)) (o : Nat) : w.cell? ⟨b, o, none⟩ = cs[o]? := by
  have : w.heap[b]? = some (.cells cs T (0, 0)) := h.get hi
  simp [World.cell?, this]
theorem Mem.block {w0 : World} {L : List Ent} {w : World} (h : Mem w0 L w) {i b : Nat} {cs : Array Value} {T : TypeId} (hi : L[i]? = some (blk b cs T)) : w.heap[b]? = some (.cells cs T (0, 0)) := h.get hi

/-- The block's cells turned, whole. -/
theorem Mem.setRow {w0 : World} {L : List Ent} {w : World} (h : Mem w0 L w) {i b : Nat} {cs : Array Value} {T : TypeId} (hi : L[i]? = some (blk b cs T)) (cs' : Array Value) : Mem w0 (L.set i (blk b cs' T)) (w.setRow b cs') := by
  have hb := h.block hi
  refine h.change hi (fun k hk => hk) (fun k hk => ?_) (by simp [World.setRow]) ⟨rfl, rfl, rfl⟩ ?_
  · exact setRow_other w b k cs' (fun e => hk e)
  · exact setRow_heap w b cs cs' T (0, 0) hb


end Go.Eng
