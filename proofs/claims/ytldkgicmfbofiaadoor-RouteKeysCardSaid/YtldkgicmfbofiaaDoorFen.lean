/- Regions of a round's frame (of a range over a function) walked as those of a function's own. -/
import Derived.RangeFuncRecord
import Derived.RangeFuncCalls
import Derived.OrdersIn
import Derived.WalkKit
import Derived.Deep.Quiet
import Derived.IntWalk
set_option linter.unusedSimpArgs false
set_option linter.unusedVariables false
namespace Go.Eng
open Go.RowKit

def fen (ro : Option Nat) : Fence := { fn := fun _ => True, depth := none, alive := false, round := ro }
theorem fen_none : fen none = Fence.wide := rfl
theorem fen_room (ro : Option Nat) (n : Nat) : (fen ro).room n := fun _ h => by cases h
def noDefer (l : List Oper) : Bool := l.all fun o => match o.op with
  | .defer _ => false
  | _ => true
theorem noDefer_at {l : List Oper} (h : noDefer l = true) {i : Nat} {o : Oper} (hi : l.toArray[i]? = some o) : ∀ c, o.op ≠ .defer c := fun c e => by
  have hm : o ∈ l := by simpa using Array.mem_of_getElem? hi
  have := List.all_eq_true.1 h o hm
  rw [e] at this; cases this

/-- No way out by 'outgrown'. -/
class Tame (Q : Exit → Act → World → Prop) : Prop where
  h : ∀ a w, ¬ Q .outgrown a w
instance Tame.then {K : Act → World → Prop} {Q : Exit → Act → World → Prop} [q : Tame Q] : Tame (Exit.then K Q) := ⟨fun a w h => q.h a w h⟩
instance Tame.block {id : Nat} {Q : Exit → Act → World → Prop} [q : Tame Q] : Tame (Exit.inBlock id Q) := ⟨fun a w h => q.h a w h⟩

variable {P : Program} {ro : Option Nat}
theorem callsIn_fen {f : FuncId} {args : Array Value} {w : World} {R : Ending → World → Prop} (h : Calls P f args w R) : CallsIn (fen ro) 0 P f args w R := by
  have h' : CallsIn Fence.wide 0 P f args w R := callsIn_wide.2 h
  cases ro with
  | none => exact h'
  | some l => exact h'.inRound l
theorem rowsIn_fen {row : String} {args : Array Value} {w : World} {R : Value → World → Prop} (h : Rows P row args w R) : RowsIn (fen ro) 0 P row args w R := fun c cs _ => by
  obtain ⟨v, w', hR, hs⟩ := h c cs
  refine ⟨v, w', hR, ?_⟩
  have h' : StepsIn (Machine.fenced P Fence.wide) P _ _ := stepsIn_wide.2 hs
  exact h'

theorem wpIn_of_wp {o : Oper} {a : Act} {w : World} {K : Act → World → Prop} {Q : Exit → Act → World → Prop} (hnd : ∀ c, o.op ≠ .defer c) (h : o.wp P a w K Q) : o.wpIn (fen ro) 0 P a w K Q := by
  refine ⟨fun _ _ => trivial, ?_⟩
  rw [Oper.semAt_eq _ _ _ hnd]
  unfold Oper.wp at h
  generalize (execOp a.eval o).run P w = r at h ⊢
  unfold Oper.upon at h
  unfold Oper.uponIn
  split at h
  · exact h
  · exact h
  · exact h
  · exact ⟨fun e => (by cases e), callsIn_fen h⟩
  · exact ⟨fun e => (by cases e), rowsIn_fen h⟩
  · exact h
  · exact h.elim

theorem opsIn_of_ops {ops : Array Oper} {Q : Exit → Act → World → Prop} [q : Tame Q] (hnd : ∀ (i : Nat) (o : Oper), ops[i]? = some o → ∀ c, o.op ≠ .defer c) : ∀ (l : List Nat) (a : Act) (w : World), wpOps P ops Q l a w → wpOpsIn (fen ro) 0 P ops Q l a w
  | [], _, _, h => h
  | i :: rest, a, w, h => by
    unfold wpOps at h
    unfold wpOpsIn
    split at h
    · rename_i ho; simp only [ho]; exact opsIn_of_ops hnd rest a w h
    · rename_i o ho
      simp only [ho]
      split at h
      · rename_i hw
        rw [if_pos hw]
        rcases h with h | ⟨_, a', w', h⟩
        · exact Oper.wpIn_mono (fun a w h => opsIn_of_ops hnd rest a w h) (wpIn_of_wp (hnd i o ho) h)
        · exact absurd h (q.h a' w')
      · rename_i hw
        rw [if_neg hw]
        exact ⟨fun _ _ => trivial, opsIn_of_ops hnd rest _ w h⟩

theorem fen_region_lit {id : Nat} {l : List Oper} {Q : Exit → Act → World → Prop} {a : Act} {w : World} [Tame Q] (hnd : noDefer l = true) (h : wpList P l.toArray Q l a w) : (Code.region id l.toArray false).wpIn (fen ro) 0 P Q a w :=
  wpIn_region (opsIn_of_ops (fun _ _ hi => noDefer_at hnd hi) _ a w (by rw [List.range_eq_range', ← Array.length_toList, wpOps_eq_wpList l.toArray.toList 0 (by simp)]; exact h))
theorem fen_region_any {id : Nat} {l : List Oper} {Q : Exit → Act → World → Prop} {a : Act} {w : World} [Tame Q] (hnd : noDefer l = true) (hm : P.follows .mixedOrders = true)
    (h : wpAny P .any l.toArray Q l.toArray.size (Array.replicate l.toArray.size false) a { w with drawn := w.drawn + 1 }) : (Code.region id l.toArray true).wpIn (fen ro) 0 P Q a w :=
  wpIn_region_draw fun t => opsIn_of_ops (fun _ _ hi => noDefer_at hnd hi) _ a _ (by
    simp only [Region.schedule, hm, Bool.true_or, if_true]
    exact wpAny_sound l.toArray.size t _ a _ h)
theorem fen_region_quiet {id : Nat} {l : List Oper} {C : World → Prop} {Q : Exit → Act → World → Prop} {a : Act} {w : World} [Tame Q] (hnd : noDefer l = true) (hm : P.follows .mixedOrders = true) (hB : Region.lexB .any l.toArray = true) (hC : C { w with drawn := w.drawn + 1 })
    (h : wpQuiet P l.toArray C (fun a' => ∀ w', C w' → Q .normal a' w') l a) : (Code.region id l.toArray true).wpIn (fen ro) 0 P Q a w := by
  simp only [Region.lexB, Bool.and_eq_true] at hB
  refine fen_region_any hnd hm (wpAny_of_quiet (Q := fun a' => ∀ w', C w' → Q .normal a' w') (fun _ w' hw' h => h w' hw') _ _ _ _ hC ?_)
  have := wpAnyQ_lex (C := C) (md := .any) hB.1 l 0 (Array.replicate l.toArray.size false) a (by simp) (by simpa using hB.2) h
  simpa using this

/-! The end of a function: marks of loops among its deferred calls. -/
def mark (D : Nat) : Deferred := { target := .collected D, args := #[] }
def endPost (P : Program) (fn : Func) (R : Ending → World → Prop) : Exit → Act → World → Prop := fun e a w => (e = .normal ∨ e = .ret) ∧ bodyPostM (fen none) 0 P fn R e a w
instance Tame.end {fn : Func} {R : Ending → World → Prop} : Tame (endPost P fn R) := ⟨fun a w h => by rcases h.1 with h | h <;> cases h⟩
theorem calls_of_end {f : FuncId} {fn : Func} {c : Code} {args : Array Value} {w : World} {R : Ending → World → Prop} (hf : P.funcs[f]? = some fn) (hb : fn.body = some c)
    (h : c.wpIn (fen none) 0 P (endPost P fn R) { tmps := args ++ Array.replicate (fn.ntmps - args.size) undef, defers := [] } w) : Calls P f args w R :=
  callsIn_wide.1 (callsIn_of_wp_marks (F := fen none) (n := 0) hf hb trivial (wpIn_mono h fun _ _ _ h => h.2))
end Go.Eng
