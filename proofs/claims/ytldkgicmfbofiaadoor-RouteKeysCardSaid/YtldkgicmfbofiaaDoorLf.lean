/- A row whose listed variables are laid: its lifted proof out of the call's. -/
import Derived.Test.YtldkgicmfbofiaaDoorOp
import Derived.Test.YtldkgicmfbofiaaDoorSy
import Derived.Handed
import Derived.Lay
import Derived.MakeChecks
import Derived.Stop.Joined
import Derived.LaidLaws
set_option linter.unusedSimpArgs false
set_option linter.unusedVariables false
namespace Go.Eng
open Go.ChangeShapes Go.WideShapes Go.ChangeAt Go.RowKit Go.Kb
variable {P : Program}
theorem Arg.str {H : Type} {enc : TypeId × Value → H} {W : World} {b : Nat} {t : TypeId} {v : Value} (h : Arg H enc P W b t v) (hu : P.underlying t = some .string) : ∃ s : Txt, v = .string ⟨s.toArray⟩ ∧ True := by
  have h := h.ok
  unfold Value.okWide at h
  rw [hu] at h
  cases v with
  | string s => exact ⟨s.data.toList, congrArg Value.string (tx_of s), trivial⟩
  | _ => simp [Cell.okWide, hu, Cell.ok] at h
theorem lifted_laid {H : Type} {enc : TypeId × Value → H} {C : Checked} {os : Os} {f : FuncId} {fn : Func} {s : ChangeSpec} {conds : List PathCond} {apart fresh handsOn : Bool} {tb : TypeId} {laid : List (String × DataW Unit)}
    (own : ownKnob C.prog.godebug = none) (started : os.Started) (noInit : C.prog.inits.idxOf? f = none) (hfunc : C.prog.funcs[f]? = some fn)
    (wit : ∃ (w : World) (tape : Tape) (i : Input), w.os = os ∧ (w.forCall tape i).Shaped C.prog ∧ i.vars = [] ∧ Input.okWide C.prog (w.forCall tape i) .any w.heap.size f i ∧
      ((s.pre enc C.prog fn conds apart (w.forCall tape i).memory i.args ∧ laidMetH C.prog laid (w.forCall tape i).memory) ∧ sizedMet enc C.prog fn (OpenSpec.ofChange s) apart (w.forCall tape i).memory i.args) ∧ ({} : Assume).holds C.prog (lone (Frame.enter C.prog f i.args .normal) [] (w.forCall tape i)))
    (hl : laidOutB C.prog = true) (hp : fn.params.toList.all (fun t => C.prog.readableRec t && decide (t < C.prog.types.size)) = true) (hr : fn.resultTypes = #[tb]) (hb : C.prog.underlying tb = some .bool)
    (hv : s.vars = []) (hfn : ∀ ds : List (DataW H), ds.length = fn.params.size → s.fn H ds = { results := [.lit (.bool true)], args := ds })
    (contract : ∀ (W : World) (base : Nat) (vs : List Value), W.ShapedOpen C.prog → laidMetH C.prog laid W → vs.length = fn.params.size → (∀ (j : Nat) t v, fn.params[j]? = some t → vs[j]? = some v → Arg H enc C.prog W base t v) →
      Calls C.prog f vs.toArray W fun e W' => e = .returned (.bool true) ∧ Mem W [] W') :
    ReturnsInHanded {} C os f .any (fun w args => (s.pre enc C.prog fn conds apart w args ∧ laidMetH C.prog laid w) ∧ sizedMet enc C.prog fn (OpenSpec.ofChange s) apart w args) (s.post enc C.prog fn apart fresh handsOn false) := by
  refine returnsInHanded_of_calls own started noInit wit ?_
  intro w tape i _ hsh _ hok hpre hholds
  obtain ⟨_, _, _, fn', hfn', _, _, _, _, hval⟩ := hok
  have e : fn' = fn := Option.some.inj (hfn'.symm.trans hfunc)
  subst e
  obtain ⟨⟨⟨ds, gs, before, hw, hc⟩, hx⟩, hz⟩ := hpre
  have hW := DataW.Whole.of_heap (w' := w.forCall tape i) (by rfl) hw
  have hwt := hz.weights hw
  have hlen : i.args.toList.length = fn'.params.size := by
    obtain ⟨p, q, hA, _⟩ := hW
    rw [(trodAll_length hA).1]; simp
  have h := contract (w.forCall tape i) w.heap.size i.args.toList hsh (laidMetH.of_heap (by rfl) hx) hlen (fun j t v h1 h2 => ⟨hval j t v h1 (by simpa using h2), by
    obtain ⟨p, q, hA, _⟩ := hW
    obtain ⟨d, pp, hd, ht⟩ := trodAll_get hA j t v (by simpa using h1) h2
    refine ⟨d, pp, ht, fun n hn => ?_⟩
    have hh := List.all_eq_true.1 hwt n (mem_weightsEach (i := j) (t := t) (d := d) (by rw [List.getElem?_append_left (by have := (Array.getElem?_eq_some_iff.1 h1).1; simpa using this)]; simpa using h1)
      (by rw [List.getElem?_append_left (List.getElem?_eq_some_iff.1 hd).1]; exact hd) hn)
    simpa using hh⟩)
  rw [Array.toArray_toList] at h
  refine h.mono fun e W' hh => ?_
  obtain ⟨he, hm⟩ := hh
  subst he
  exact ChangeSpec.post_blind (post_true hl hp hr hb hv hfn hW hm.below)
end Go.Eng
